/- The law on the two definitions of tables of curves. -/
import Derived.Test.YtbjpaleigokbaaaGreatDoorMU
namespace Go.Proofs.YtbjpaleigokbaaaGreatDoor
open Go.RowKit Go.Shelf

/-- blocks that are known -/
def Ks (W : World) (bs : List (Nat × TypeId × Array Value)) : Prop := ∀ x ∈ bs, Bk W x.1 x.2.1 x.2.2
theorem Ks.kept {W W' : World} {bs : List (Nat × TypeId × Array Value)} (h : Ks W bs) (hb : Below W.heap.size W W') : Ks W' bs := fun x hx => (h x hx).kept hb
theorem Ks.add {W : World} {bs : List (Nat × TypeId × Array Value)} (h : Ks W bs) {b : Nat} {t : TypeId} {cs : Array Value} (q : Bk W b t cs) : Ks W ((b, t, cs) :: bs) := fun x hx => by
  rcases List.mem_cons.1 hx with rfl | hx
  · exact q
  · exact h x hx
theorem Ks.nil (W : World) : Ks W [] := fun x hx => by cases hx

theorem EntOk.farT {w : World} {m : Nat} {h : List Value} {nm : List UInt8} {b : Nat} {t : TypeId} {cs : Array Value} (e : EntOk w m h nm) (q : Bk w b t cs) (h1 : t ≠ 56) (h2 : t ≠ 137) (h3 : 104 ≠ t) (i : Nat) (u : Value) : EntOk (w.setCell ⟨b, i, none⟩ u) m h nm := by
  obtain ⟨va, k, sg, scap, sl, rfl, hI, e1, e2, e3, e4⟩ := e.ex
  exact ⟨⟨va, k, sg, scap, sl, rfl, hI.far q h1 h2 i u, e1, e2, e3.far q h3 i u, e4⟩, e.short⟩
theorem ShE.farT {w : World} {m b : Nat} {v : Value} {hs : List (List Value)} {ns : List (List UInt8)} {t : TypeId} {cs : Array Value} (h : ShE w m v hs ns) (q : Bk w b t cs) (h1 : t ≠ 56) (h2 : t ≠ 137) (h3 : 104 ≠ t) (h4 : 126 ≠ t) (i : Nat) (u : Value) : ShE (w.setCell ⟨b, i, none⟩ u) m v hs ns := by
  obtain ⟨e1, e2, e3⟩ := h
  refine ⟨e1, fun k a s ha hs => (e2 k a s ha hs).farT q h1 h2 h3 i u, e3.imp id ?_⟩
  rintro ⟨g, cap, cur, hv, hg, hc⟩
  exact ⟨g, cap, cur, hv, hg.far _ (Bk.ne hg q h4), hc⟩
theorem rd_slice {W : World} {v : Value} {n : Nat} {xs : List Value} (h : Rd W 1 v n xs) : ∃ A c, v = .slice A n c := by
  obtain ⟨_, A, c, hv, _⟩ := h
  exact ⟨A, c, hv⟩
theorem rat_slice {W : World} {base : Nat} {v : Value} {l : List (Nat × Nat)} (h : RatRow W base v l) : ∃ A c, v = .slice A l.length c := by
  obtain ⟨cs, h, _⟩ := h
  rcases h.2 with ⟨rfl, h0⟩ | ⟨g, cap, _, rfl, _⟩
  · exact ⟨none, 0, by rw [h0]⟩
  · exact ⟨_, _, rfl⟩
theorem massLen_all : (allPs.all fun ps => decide ((massTo (csOf 1 ps)).2.length ≤ 1000000)) = true := by kernel_rfl
theorem mass_len (lo hi : Nat) (hl : lo ≤ hi) (hh : hi ≤ 13) : (massTo (csOf 1 (prs lo hi))).2.length ≤ 1000000 := by
  simpa using List.all_eq_true.1 massLen_all _ (prs_mem lo hi hl hh)
theorem RatsR.at_ {W : World} : ∀ {cs : List Value} {l : List (Nat × Nat)} {k : Nat} {x : Nat × Nat}, RatsR W cs l → l[k]? = some x → ∃ m1 m2, cs[k * 4]? = some (.bool false) ∧ cs[k * 4 + 1]? = some m1 ∧ cs[k * 4 + 2]? = some (.bool false) ∧ cs[k * 4 + 3]? = some m2 ∧ NV W m1 x.1 ∧ NV W m2 x.2
  | [], [], k, x, _, hx => by simp at hx
  | u :: m1 :: u' :: m2 :: cs, y :: l, 0, x, h, hx => by
    simp at hx; subst hx
    exact ⟨m1, m2, by rw [h.1]; rfl, rfl, by rw [h.2.1]; rfl, rfl, h.2.2.1, h.2.2.2.1⟩
  | _ :: _ :: _ :: _ :: cs, y :: l, k + 1, x, h, hx => by
    obtain ⟨m1, m2, h1, h2, h3, h4, h5⟩ := RatsR.at_ (cs := cs) (l := l) (k := k) (x := x) h.2.2.2.2 (by simpa using hx)
    refine ⟨m1, m2, ?_, ?_, ?_, ?_, h5⟩
    · rw [show (k + 1) * 4 = k * 4 + 1 + 1 + 1 + 1 by omega]; simpa using h1
    · rw [show (k + 1) * 4 + 1 = k * 4 + 1 + 1 + 1 + 1 + 1 by omega]; simpa using h2
    · rw [show (k + 1) * 4 + 2 = k * 4 + 2 + 1 + 1 + 1 + 1 by omega]; simpa using h3
    · rw [show (k + 1) * 4 + 3 = k * 4 + 3 + 1 + 1 + 1 + 1 by omega]; simpa using h4
theorem rat_at {W : World} {base n c k : Nat} {A : Option Addr} {l : List (Nat × Nat)} {x : Nat × Nat} (h : RatRow W base (.slice A n c) l) (hx : l[k]? = some x) :
    ∃ g, A = some ⟨g, 0, none⟩ ∧ ∃ m1 m2, W.cell? ⟨g, k * 4, none⟩ = some (.bool false) ∧ W.cell? ⟨g, k * 4 + 1, none⟩ = some m1 ∧ W.cell? ⟨g, k * 4 + 2, none⟩ = some (.bool false) ∧ W.cell? ⟨g, k * 4 + 3, none⟩ = some m2 ∧ NV W m1 x.1 ∧ NV W m2 x.2 ∧ g < W.heap.size := by
  obtain ⟨cs, ho, hR⟩ := h
  have hk := (List.getElem?_eq_some_iff.1 hx).1
  have ho' := ho
  rcases ho'.2 with ⟨_, h0⟩ | ⟨g, cap, cur, hv, _, hh, _⟩
  · omega
  injection hv with e1 e2 e3
  subst e1 e2 e3
  obtain ⟨m1, m2, h1, h2, h3, h4, h5, h6⟩ := hR.at_ hx
  exact ⟨g, rfl, m1, m2, by rw [ho.cellAt _ (by omega)]; exact h1, by rw [ho.cellAt _ (by omega)]; exact h2, by rw [ho.cellAt _ (by omega)]; exact h3, by rw [ho.cellAt _ (by omega)]; exact h4, h5, h6, (ho.lt g rfl).2⟩
/-- how many are not among others -/
def cntN (N1 l : List (List UInt8)) : Nat := (l.filter fun s => !decide (s ∈ N1)).length
theorem cntN_le (N1 l : List (List UInt8)) : cntN N1 l ≤ l.length := List.length_filter_le _ _
theorem cntN_snoc (N1 l : List (List UInt8)) (x : List UInt8) : cntN N1 (l ++ [x]) = if x ∈ N1 then cntN N1 l else cntN N1 l + 1 := by
  unfold cntN
  rw [List.filter_append, List.length_append]
  by_cases h : x ∈ N1 <;> simp [h]
theorem any_mem (l : List (List UInt8)) (x : List UInt8) : (l.any fun s => decide (s = x)) = decide (x ∈ l) := by
  rw [Bool.eq_iff_iff]
  simp
theorem cntN_miss {N1 N2 ns : List (List UInt8)} (h : ∀ s, s ∈ ns ↔ s ∈ N1 ∨ s = [120]) (hx : ([120] : List UInt8) ∉ N2) : missL N2 ns = [] ↔ cntN N1 N2 = 0 := by
  unfold missL cntN
  rw [List.length_eq_zero_iff, List.filter_eq_nil_iff, List.filter_eq_nil_iff]
  refine forall_congr' fun s => forall_congr' fun hs => ?_
  have : s ≠ [120] := fun e => hx (e ▸ hs)
  simp [among, h s, this]
theorem x_not (cs : List (Nat × Nat × Nat)) : ([120] : List UInt8) ∉ nmOf cs := by
  intro h
  obtain ⟨c, _, hc⟩ := List.mem_map.1 h
  simp [curveName] at hc
theorem miss_self {L ns : List (List UInt8)} (h : ∀ s, s ∈ ns ↔ s ∈ L ∨ s = [120]) : missL L ns = [] := by
  unfold missL
  rw [List.filter_eq_nil_iff]
  intro s hs
  simp [among, (h s).2 (.inl hs)]

set_option maxRecDepth 100000 in
set_option maxHeartbeats 32000000 in
theorem law_calls (kd lo sz df : Nat) (v1 v2 v3 : Value) (tw : List Nat) (w : World) (h2 : lo < 256) (h3 : sz < 256) (hG : Glob w) (hr : Rd w 1 v3 tw.length (tw.map by8)) (htw : ∀ x ∈ tw, x < 256) (hv1 : ∃ A n c, v1 = .slice A n c) (hv2 : ∃ A n c, v2 = .slice A n c) :
    Calls Tryz.prog 7 #[.agg #[by8 kd, by8 lo, by8 sz, by8 df, v1, v2, v3]] w fun e w' => e = .returned (.bool true) ∧ Below w.heap.size w w' := by
  obtain ⟨A1, n1, c1, rfl⟩ := hv1
  obtain ⟨A2, n2, c2, rfl⟩ := hv2
  have hl0 : tLo 2 lo sz ≤ tHi 2 lo sz := by unfold tLo; rw [if_pos rfl]; exact Nat.min_le_right _ _
  have hh0 : tHi 2 lo sz ≤ 13 := by unfold tHi; rw [if_pos rfl]; exact Nat.min_le_right _ _
  have hP := psOk (tLo 2 lo sz) (tHi 2 lo sz) hl0 hh0
  have HSh1 := Lib.hid (fun W (h : Below w.heap.size w W) => Shelf_calls 2 lo sz 0 v3 tw W (by omega) h2 h3 (by omega) (hr.kept h) htw (nmOf (csOf 1 (prs (tLo 2 lo sz) (tHi 2 lo sz)))) (objN_eq 1 _ _ hh0) (by unfold nmOf; rw [List.length_map]; exact hP.small) (nm_len _ hP.pa1))
  have HSh2 := Lib.hid (fun W (h : Below w.heap.size w W) => Shelf_calls 2 lo sz 1 v3 tw W (by omega) h2 h3 (by omega) (hr.kept h) htw (nmOf (csOf 2 (prs (tLo 2 lo sz) (tHi 2 lo sz)))) (objN_eq 2 _ _ hh0) (by unfold nmOf; rw [List.length_map, ← hP.len]; exact hP.small) (nm_len _ hP.pa2))
  have HT1 := Lib.hid (fun W => show Calls Tryz.prog 9 #[.agg #[by8 2, by8 lo, by8 sz, by8 0, .slice none 0 0, .slice none 0 0, v3]] W fun e w' => e = .returned (tb 3 (tLo 2 lo sz : Nat) (tHi 2 lo sz : Nat) 1) ∧ Below W.heap.size W w' from Table_calls 2 lo sz 0 _ _ v3 W (by omega) h2 (by omega) h3)
  have HT2 := Lib.hid (fun W => show Calls Tryz.prog 9 #[.agg #[by8 2, by8 lo, by8 sz, by8 1, .slice none 0 0, .slice none 0 0, v3]] W fun e w' => e = .returned (tb 3 (tLo 2 lo sz : Nat) (tHi 2 lo sz : Nat) 2) ∧ Below W.heap.size W w' from Table_calls 2 lo sz 1 _ _ v3 W (by omega) h2 (by omega) h3)
  obtain ⟨_, A3, c3, rfl, _, _⟩ := hr
  have HP := Lib.hid hP
  have HG := Lib.hid hG
  generalize tLo 2 lo sz = l0 at *
  generalize tHi 2 lo sz = h0 at *
  generalize hnt : tw.length = nt at *
  clear hnt htw h2 h3 hP hG
  have q1 := Bk.new w 26 #[by8 kd, by8 lo, by8 sz, by8 df, .slice A1 n1 c1, .slice A2 n2 c2, .slice A3 nt c3]
  have hB0 := (Below.refl w.heap.size w).alloc (Nat.le_refl _) (.cells #[by8 kd, by8 lo, by8 sz, by8 df, .slice A1 n1 c1, .slice A2 n2 c2, .slice A3 nt c3] 26)
  go_enter Tryz.func7, Tryz.ntmps7
  go_wp2_with fail
  refine (examples_calls _).mono ?_
  rintro e w1 ⟨rfl, hB1⟩
  have q1 := q1.kept hB1
  have HB1 := Lib.hid (hB0.trans (hB1.mono hB0.size))
  have a0 := q1.cell 0
  have a1 := q1.cell 1
  have a2 := q1.cell 2
  have a3 := q1.cell 3
  have a4 := q1.cell 4
  have a5 := q1.cell 5
  have a6 := q1.cell 6
  have al := q1.lt
  have fa := q1.frozen
  have q2 : Bk ((((w1.setCell ⟨w.heap.size, 4, none⟩ (.slice none 0 0)).setCell ⟨w.heap.size, 5, none⟩ (.slice none 0 0)).setCell ⟨w.heap.size, 0, none⟩ (.int .u8 2)).setCell ⟨w.heap.size, 3, none⟩ (.int .u8 0)) w.heap.size 26 #[by8 2, by8 lo, by8 sz, by8 0, .slice none 0 0, .slice none 0 0, .slice A3 nt c3] := (((q1.put 4 _).put 5 _).put 0 _).put 3 _
  have HB2 := Lib.hid ((((HB1.out.setCell (p := ⟨w.heap.size, 4, none⟩) (Nat.le_refl _) (.slice none 0 0)).setCell (p := ⟨w.heap.size, 5, none⟩) (Nat.le_refl _) (.slice none 0 0)).setCell (p := ⟨w.heap.size, 0, none⟩) (Nat.le_refl _) (.int .u8 2)).setCell (p := ⟨w.heap.size, 3, none⟩) (Nat.le_refl _) (.int .u8 0))
  clear q1 hB0 hB1
  go_upto_region 8 with (fail)
  generalize (((w1.setCell ⟨w.heap.size, 4, none⟩ (.slice none 0 0)).setCell ⟨w.heap.size, 5, none⟩ (.slice none 0 0)).setCell ⟨w.heap.size, 0, none⟩ (.int .u8 2)).setCell ⟨w.heap.size, 3, none⟩ (.int .u8 0) = W2 at *
  clear a0 a1 a2 a3 a4 a5 a6 al fa
  have a0 := q2.cell 0
  have a1 := q2.cell 1
  have a2 := q2.cell 2
  have a3 := q2.cell 3
  have a4 := q2.cell 4
  have a5 := q2.cell 5
  have a6 := q2.cell 6
  have al := q2.lt
  have HK2 := Lib.hid ((Ks.nil W2).add q2)
  clear q2
  go_wp2_with fail
  refine (HT1.out _).mono ?_
  rintro e w3 ⟨rfl, hB3⟩
  have hal := (Below.refl w3.heap.size w3).alloc (Nat.le_refl _) (.cells #[.int .i64 3, .int .i64 l0, .int .i64 h0, .int .i64 1] 29)
  have HK3 := Lib.hid (((HK2.out.kept hB3).kept hal).add (Bk.new w3 29 #[.int .i64 3, .int .i64 l0, .int .i64 h0, .int .i64 1]))
  have HB3 := Lib.hid ((HB2.out.trans (hB3.mono HB2.out.size)).trans (hal.mono (Nat.le_trans HB2.out.size hB3.size)))
  clear hB3 hal a0 a1 a2 a3 a4 a5 a6 al
  go_upto_region 9 with (fail)
  generalize w3.alloc (.cells #[.int .i64 3, .int .i64 l0, .int .i64 h0, .int .i64 1] 29) = W3 at *
  generalize w3.heap.size = b4 at *
  have q1 := HK3.out _ (show (w.heap.size, 26, #[by8 2, by8 lo, by8 sz, by8 0, .slice none 0 0, .slice none 0 0, .slice A3 nt c3]) ∈ _ by simp)
  have a0 := q1.cell 0
  have a1 := q1.cell 1
  have a2 := q1.cell 2
  have a3 := q1.cell 3
  have a4 := q1.cell 4
  have a5 := q1.cell 5
  have a6 := q1.cell 6
  have al := q1.lt
  clear q1
  go_wp2_with fail
  refine (HSh1.out _ HB3.out).mono ?_
  rintro e w4 ⟨vs, hss, nss, rfl, hS, hmemS, hnS, hB4⟩
  obtain ⟨As, ks, cs, rfl⟩ := hS.slice
  have hal := (Below.refl w4.heap.size w4).alloc (Nat.le_refl _) (.cells #[.slice As ks cs] 33)
  have HK4 := Lib.hid (((HK3.out.kept hB4).kept hal).add (Bk.new w4 33 #[.slice As ks cs]))
  have HB4 := Lib.hid ((HB3.out.trans (hB4.mono HB3.out.size)).trans (hal.mono (Nat.le_trans HB3.out.size hB4.size)))
  have HS4 := Lib.hid (hS.kept hal)
  have HmS := Lib.hid (And.intro hmemS hnS)
  clear hB4 hal hS hmemS hnS a0 a1 a2 a3 a4 a5 a6 al
  go_upto_region 10 with (fail)
  generalize w4.alloc (.cells #[.slice As ks cs] 33) = W4 at *
  generalize w4.heap.size = b5 at *
  have q1 := HK4.out _ (show (w.heap.size, 26, #[by8 2, by8 lo, by8 sz, by8 0, .slice none 0 0, .slice none 0 0, .slice A3 nt c3]) ∈ _ by simp)
  have a0 := q1.cell 0
  have a1 := q1.cell 1
  have a2 := q1.cell 2
  have a3 := q1.cell 3
  have a4 := q1.cell 4
  have a5 := q1.cell 5
  have a6 := q1.cell 6
  have al := q1.lt
  clear q1
  go_upto_region 11 with (refine storeNewP A_raw rfl _ _ rfl rfl rfl #[by8 2, by8 lo, by8 sz, by8 0, .slice none 0 0, .slice none 0 0, .slice A3 nt c3] rfl rfl rfl (by simp [Value.oneCell']) ?_; intro X6 q6 hB6)
  have HK6 := Lib.hid (HK4.out.kept hB6)
  have HB6 := Lib.hid (HB4.out.trans (hB6.mono HB4.out.size))
  have HS6 := Lib.hid (HS4.out.kept hB6)
  have HQ6 := Lib.hid q6
  have HL6 := Lib.hid (show ∀ x ∈ [(b5, 33, #[.slice As ks cs]), (b4, 29, #[.int .i64 3, .int .i64 l0, .int .i64 h0, .int .i64 1]), (w.heap.size, 26, #[by8 2, by8 lo, by8 sz, by8 0, .slice none 0 0, .slice none 0 0, .slice A3 nt c3])], x.1 < W4.heap.size from fun x hx => (HK4.out x hx).lt)
  clear hB6 a0 a1 a2 a3 a4 a5 a6 al
  generalize W4.heap.size = b6 at *
  have d3 := q6.cell 3
  have f3 := q6.frozen 3
  have l3 := q6.lt
  have q6' : Bk (X6.setCell ⟨b6, 3, none⟩ (.int .u8 1)) b6 26 #[by8 2, by8 lo, by8 sz, by8 1, .slice none 0 0, .slice none 0 0, .slice A3 nt c3] := q6.put 3 _
  have HK7 : Hid (Ks (X6.setCell ⟨b6, 3, none⟩ (.int .u8 1)) [(b6, 26, #[by8 2, by8 lo, by8 sz, by8 1, .slice none 0 0, .slice none 0 0, .slice A3 nt c3]), (b5, 33, #[.slice As ks cs]), (b4, 29, #[.int .i64 3, .int .i64 l0, .int .i64 h0, .int .i64 1]), (w.heap.size, 26, #[by8 2, by8 lo, by8 sz, by8 0, .slice none 0 0, .slice none 0 0, .slice A3 nt c3])]) := Lib.hid (Ks.add (fun x hx => (HK6.out x hx).far _ (Nat.ne_of_lt (HL6.out x hx))) q6')
  have HS7 := Lib.hid (HS6.out.farT q6 (by decide) (by decide) (by decide) (by decide) 3 (.int .u8 1))
  have HB7 := Lib.hid (HB6.out.setCell (p := ⟨b6, 3, none⟩) (show w.heap.size ≤ b6 by have := HL6.out _ (show (w.heap.size, 26, #[by8 2, by8 lo, by8 sz, by8 0, .slice none 0 0, .slice none 0 0, .slice A3 nt c3]) ∈ _ by simp); simp at this; omega) (.int .u8 1))
  clear q6 q6' HQ6
  go_upto_region 12 with (fail)
  generalize X6.setCell ⟨b6, 3, none⟩ (.int .u8 1) = W7 at *
  clear d3 f3 l3
  have q6 := HK7.out _ (show (b6, 26, #[by8 2, by8 lo, by8 sz, by8 1, .slice none 0 0, .slice none 0 0, .slice A3 nt c3]) ∈ _ by simp)
  have a0 := q6.cell 0
  have a1 := q6.cell 1
  have a2 := q6.cell 2
  have a3 := q6.cell 3
  have a4 := q6.cell 4
  have a5 := q6.cell 5
  have a6 := q6.cell 6
  have al := q6.lt
  clear q6
  go_wp2_with fail
  refine (HT2.out _).mono ?_
  rintro e w8 ⟨rfl, hB8⟩
  have hal := (Below.refl w8.heap.size w8).alloc (Nat.le_refl _) (.cells #[.int .i64 3, .int .i64 l0, .int .i64 h0, .int .i64 2] 29)
  have HK8 := Lib.hid (((HK7.out.kept hB8).kept hal).add (Bk.new w8 29 #[.int .i64 3, .int .i64 l0, .int .i64 h0, .int .i64 2]))
  have HB8 := Lib.hid ((HB7.out.trans (hB8.mono HB7.out.size)).trans (hal.mono (Nat.le_trans HB7.out.size hB8.size)))
  have HS8 := Lib.hid ((HS7.out.kept hB8).kept hal)
  clear hB8 hal a0 a1 a2 a3 a4 a5 a6 al
  go_upto_region 13 with (fail)
  generalize w8.alloc (.cells #[.int .i64 3, .int .i64 l0, .int .i64 h0, .int .i64 2] 29) = W8 at *
  generalize w8.heap.size = b7 at *
  have q6 := HK8.out _ (show (b6, 26, #[by8 2, by8 lo, by8 sz, by8 1, .slice none 0 0, .slice none 0 0, .slice A3 nt c3]) ∈ _ by simp)
  have a0 := q6.cell 0
  have a1 := q6.cell 1
  have a2 := q6.cell 2
  have a3 := q6.cell 3
  have a4 := q6.cell 4
  have a5 := q6.cell 5
  have a6 := q6.cell 6
  have al := q6.lt
  clear q6
  go_wp2_with fail
  refine (HSh2.out _ HB8.out).mono ?_
  rintro e w9 ⟨vt, hst, nst, rfl, hT, hmemT, hnT, hB9⟩
  obtain ⟨At, kt, ct, rfl⟩ := hT.slice
  have hal := (Below.refl w9.heap.size w9).alloc (Nat.le_refl _) (.cells #[.slice At kt ct] 33)
  have HK9 := Lib.hid (((HK8.out.kept hB9).kept hal).add (Bk.new w9 33 #[.slice At kt ct]))
  have HB9 := Lib.hid ((HB8.out.trans (hB9.mono HB8.out.size)).trans (hal.mono (Nat.le_trans HB8.out.size hB9.size)))
  have HS9 := Lib.hid ((HS8.out.kept hB9).kept hal)
  have HT9 := Lib.hid (hT.kept hal)
  have HmT := Lib.hid (And.intro hmemT hnT)
  clear hB9 hal hT hmemT hnT a0 a1 a2 a3 a4 a5 a6 al
  go_upto_region 14 with (fail)
  generalize w9.alloc (.cells #[.slice At kt ct] 33) = W9 at *
  generalize w9.heap.size = b8 at *
  have HM1 := Lib.hid (fun W hb hG hS => MakeC_calls l0 h0 1 hl0 hh0 (.inl rfl) 1000 (.slice As ks cs) hss nss W hG hS hb (miss_self HmS.out.1))
  have HM2 := Lib.hid (fun W hb hG hS => MakeC_calls l0 h0 2 hl0 hh0 (.inr rfl) 1000 (.slice At kt ct) hst nst W hG hS hb (miss_self HmT.out.1))
  have HM3 := Lib.hid (fun W hb hG hS (hm : missL (nmOf (csOf 2 (prs l0 h0))) nss = []) => MakeC_calls l0 h0 2 hl0 hh0 (.inr rfl) 1000 (.slice As ks cs) hss nss W hG hS hb hm)
  have HM4 := Lib.hid (fun W hb (hS : ShE W 1000 (.slice As ks cs) hss nss) (hm : missL (nmOf (csOf 2 (prs l0 h0))) nss ≠ []) => Make_none 3 l0 h0 2 (nmOf (csOf 2 (prs l0 h0))) (.slice As ks cs) hss nss W (Obj_curves l0 h0 2 hl0 hh0 (.inr rfl)) (nm_len _ HP.out.pa2) (by unfold nmOf; rw [List.length_map, ← HP.out.len]; have := HP.out.small; omega) hS.shv hb hm)
  have HN := Lib.hid (show (nmOf (csOf 1 (prs l0 h0))).length = (nmOf (csOf 2 (prs l0 h0))).length by unfold nmOf; rw [List.length_map, List.length_map]; exact HP.out.len)
  have HNl := Lib.hid (show (nmOf (csOf 1 (prs l0 h0))).length ≤ 400 by unfold nmOf; rw [List.length_map]; exact HP.out.small)
  have HNx := Lib.hid (And.intro (x_not (csOf 1 (prs l0 h0))) (x_not (csOf 2 (prs l0 h0))))
  rw [← HP.out.mass] at HM2 HM3
  have HMl := Lib.hid (show (massTo (csOf 1 (prs l0 h0))).2.length ≤ 1000000 from mass_len l0 h0 hl0 hh0)
  generalize (massTo (csOf 1 (prs l0 h0))).2 = ml at *
  generalize nmOf (csOf 1 (prs l0 h0)) = N1 at *
  generalize nmOf (csOf 2 (prs l0 h0)) = N2 at *
  have hns := HmS.out.2
  have hnt := HmT.out.2
  have q4 := HK9.out _ (show (b4, 29, #[.int .i64 3, .int .i64 l0, .int .i64 h0, .int .i64 1]) ∈ _ by simp)
  have q5 := HK9.out _ (show (b5, 33, #[.slice As ks cs]) ∈ _ by simp)
  have a0 := q4.cell 0
  have a1 := q4.cell 1
  have a2 := q4.cell 2
  have a3 := q4.cell 3
  have al := q4.lt
  have y0 := q5.cell 0
  have yl := q5.lt
  clear q4 q5
  go_wp2_with fail
  refine (HM1.out _ (by omega) (HG.out.kept HB9.out) HS9.out).mono ?_
  rintro e w10 ⟨va, vm, rfl, hra, ⟨bsa, hrm⟩, hB10⟩
  obtain ⟨Aa, ca, rfl⟩ := rd_slice (rd_of_own hra)
  obtain ⟨Am, cm, rfl⟩ := rat_slice hrm
  have HK10 := Lib.hid (HK9.out.kept hB10)
  have HB10 := Lib.hid (HB9.out.trans (hB10.mono HB9.out.size))
  have HS10 := Lib.hid (HS9.out.kept hB10)
  have HT10 := Lib.hid (HT9.out.kept hB10)
  have HRa := Lib.hid (And.intro (rd_of_own hra) hrm)
  clear hra hrm hB10 a0 a1 a2 a3 al y0 yl
  go_upto_region 15 with (refine storeNewP A_whole rfl _ _ rfl rfl rfl #[.int .i64 3, .int .i64 l0, .int .i64 h0, .int .i64 1, .slice Aa N1.length ca, .slice Am ml.length cm] rfl rfl rfl (by simp [Value.oneCell']) ?_; intro X11 q11 hB11)
  have HK11 := Lib.hid ((HK10.out.kept hB11).add q11)
  have HB11 := Lib.hid (HB10.out.trans (hB11.mono HB10.out.size))
  have HS11 := Lib.hid (HS10.out.kept hB11)
  have HT11 := Lib.hid (HT10.out.kept hB11)
  have HRa11 := Lib.hid (And.intro (HRa.out.1.kept hB11) (HRa.out.2.kept hB11))
  clear hB11 q11 HRa
  generalize w10.heap.size = b9 at *
  have q7 := HK11.out _ (show (b7, 29, #[.int .i64 3, .int .i64 l0, .int .i64 h0, .int .i64 2]) ∈ _ by simp)
  have q8 := HK11.out _ (show (b8, 33, #[.slice At kt ct]) ∈ _ by simp)
  have a0 := q7.cell 0
  have a1 := q7.cell 1
  have a2 := q7.cell 2
  have a3 := q7.cell 3
  have al := q7.lt
  have y0 := q8.cell 0
  have yl := q8.lt
  clear q7 q8
  go_wp2_with fail
  refine (HM2.out _ (by omega) (HG.out.kept HB11.out) HT11.out).mono ?_
  rintro e w12 ⟨vb, vn, rfl, hrb, ⟨bsb, hrn⟩, hB12⟩
  obtain ⟨Ab, cb, rfl⟩ := rd_slice (rd_of_own hrb)
  obtain ⟨An, cn, rfl⟩ := rat_slice hrn
  have HK12 := Lib.hid (HK11.out.kept hB12)
  have HB12 := Lib.hid (HB11.out.trans (hB12.mono HB11.out.size))
  have HS12 := Lib.hid (HS11.out.kept hB12)
  have HRa12 := Lib.hid (And.intro (HRa11.out.1.kept hB12) (HRa11.out.2.kept hB12))
  have HRb := Lib.hid (And.intro (rd_of_own hrb) hrn)
  clear hrb hrn hB12 a0 a1 a2 a3 al y0 yl
  go_upto_region 16 with (refine storeNewP A_whole rfl _ _ rfl rfl rfl #[.int .i64 3, .int .i64 l0, .int .i64 h0, .int .i64 2, .slice Ab N2.length cb, .slice An ml.length cn] rfl rfl rfl (by simp [Value.oneCell']) ?_; intro X13 q13 hB13)
  have HK13 := Lib.hid ((HK12.out.kept hB13).add q13)
  have HB13 := Lib.hid (HB12.out.trans (hB13.mono HB12.out.size))
  have HS13 := Lib.hid (HS12.out.kept hB13)
  have HRa13 := Lib.hid (And.intro (HRa12.out.1.kept hB13) (HRa12.out.2.kept hB13))
  have HRb13 := Lib.hid (And.intro (HRb.out.1.kept hB13) (HRb.out.2.kept hB13))
  clear hB13 q13 HRb
  generalize w12.heap.size = b11 at *
  have q9 := HK13.out _ (show (b9, 46, #[.int .i64 3, .int .i64 l0, .int .i64 h0, .int .i64 1, .slice Aa N1.length ca, .slice Am ml.length cm]) ∈ _ by simp)
  have q11 := HK13.out _ (show (b11, 46, #[.int .i64 3, .int .i64 l0, .int .i64 h0, .int .i64 2, .slice Ab N2.length cb, .slice An ml.length cn]) ∈ _ by simp)
  have q4 := HK13.out _ (show (b4, 29, #[.int .i64 3, .int .i64 l0, .int .i64 h0, .int .i64 1]) ∈ _ by simp)
  have q7 := HK13.out _ (show (b7, 29, #[.int .i64 3, .int .i64 l0, .int .i64 h0, .int .i64 2]) ∈ _ by simp)
  have a0 := q9.cell 0
  have a1 := q9.cell 1
  have a2 := q9.cell 2
  have a3 := q9.cell 3
  have a4 := q9.cell 4
  have a5 := q9.cell 5
  have al := q9.lt
  have y0 := q11.cell 0
  have y1 := q11.cell 1
  have y2 := q11.cell 2
  have y3 := q11.cell 3
  have y4 := q11.cell 4
  have y5 := q11.cell 5
  have yl := q11.lt
  have d0 := q4.cell 0
  have d1 := q4.cell 1
  have d2 := q4.cell 2
  have d3 := q4.cell 3
  have dl := q4.lt
  have g0 := q7.cell 0
  have g1 := q7.cell 1
  have g2 := q7.cell 2
  have g3 := q7.cell 3
  have gl := q7.lt
  clear q9 q11 q4 q7
  have hnn : ((N1.length : Int) != (N2.length : Int)) = false := by rw [HN.out]; simp
  have hnnN : (N1.length != N2.length) = false := by rw [HN.out]; simp
  have hne : ¬ ¬ N1.length = N2.length := by rw [HN.out]; simp
  go_upto_region 18 with (fail)
  clear a0 a1 a2 a3 a4 a5 al y0 y1 y2 y3 y4 y5 yl d0 d1 d2 d3 dl g0 g1 g2 g3 gl hnn hnnN hne
  have hml : ml.length ≤ 1000000 := HMl.out
  generalize hX13 : X13 = W13 at *
  clear hX13
  go_wp2_with fail
  go_loopw [13] (fun i wr => ∃ j : Nat, j ≤ ml.length ∧ i = .int .i64 j ∧ Below W13.heap.size W13 wr) (fun i _ => ml.length - (intOf i).toNat)
  case atStart => exact ⟨0, by omega, rfl, Below.refl _ _⟩
  case round =>
    obtain ⟨j, hj, rfl, hBr⟩ := hrel
    have HBr := Lib.hid hBr
    have q9 := (HK13.out _ (show (b9, 46, #[.int .i64 3, .int .i64 l0, .int .i64 h0, .int .i64 1, .slice Aa N1.length ca, .slice Am ml.length cm]) ∈ _ by simp)).kept hBr
    have q11 := (HK13.out _ (show (b11, 46, #[.int .i64 3, .int .i64 l0, .int .i64 h0, .int .i64 2, .slice Ab N2.length cb, .slice An ml.length cn]) ∈ _ by simp)).kept hBr
    have a5 := q9.cell 5
    have l9 := q9.lt
    have y5 := q11.cell 5
    have l11 := q11.lt
    by_cases hlt : j < ml.length
    · have hd1 : decide ((j : Int) < (ml.length : Int)) = true := by simp; omega
      have hd1n : decide (j < ml.length) = true := by simp; omega
      obtain ⟨x, hx⟩ : ∃ x, ml[j]? = some x := ⟨_, List.getElem?_eq_getElem hlt⟩
      obtain ⟨ga, hga, m1, m2, z0, z1, z2, z3, hm1, hm2, hca⟩ := rat_at (HRa13.out.2.kept hBr) hx
      obtain ⟨gb, hgb, m3, m4, u0, u1, u2, u3, hm3, hm4, hcb⟩ := rat_at (HRb13.out.2.kept hBr) hx
      subst hga hgb
      have HSm := Lib.hid (fun W (h : Below wr.heap.size wr W) => SameQ_calls x.1 x.2 m1 m2 m3 m4 W (hm1.kept h) (hm2.kept h) (hm3.kept h) (hm4.kept h))
      obtain ⟨A5, c5, rfl⟩ := hm1.slice
      obtain ⟨A6, c6, rfl⟩ := hm2.slice
      obtain ⟨A7, c7, rfl⟩ := hm3.slice
      obtain ⟨A8, c8, rfl⟩ := hm4.slice
      clear hm1 hm2 hm3 hm4 hx
      generalize (wordsOf x.1).length = n5 at *
      generalize (wordsOf x.2).length = n6 at *
      generalize hnl : ml.length = nl at *
      have Hnl := Lib.hid hnl
      clear hnl
      have hji : (j : Int) < (nl : Int) := by omega
      go_wp2_with fail
      refine wp_region_held_drew (S := (fun w' => w'.cell? ⟨b9, 5, none⟩ = some (.slice (some ⟨ga, 0, none⟩) nl cm) ∧ w'.cell? ⟨b11, 5, none⟩ = some (.slice (some ⟨gb, 0, none⟩) nl cn) ∧ w'.cell? ⟨ga, j * 4, none⟩ = some (.bool false) ∧ w'.cell? ⟨ga, j * 4 + 1, none⟩ = some (.slice A5 n5 c5) ∧ w'.cell? ⟨ga, j * 4 + 2, none⟩ = some (.bool false) ∧ w'.cell? ⟨ga, j * 4 + 3, none⟩ = some (.slice A6 n6 c6) ∧ w'.cell? ⟨gb, j * 4, none⟩ = some (.bool false) ∧ w'.cell? ⟨gb, j * 4 + 1, none⟩ = some (.slice A7 n5 c7) ∧ w'.cell? ⟨gb, j * 4 + 2, none⟩ = some (.bool false) ∧ w'.cell? ⟨gb, j * 4 + 3, none⟩ = some (.slice A8 n6 c8) ∧ Below wr.heap.size wr w')) (by kernel_rfl) ⟨a5, y5, z0, z1, z2, z3, u0, u1, u2, u3, (Below.refl _ _).drew⟩ (fun hHeld => ?_)
      (refine wpAnyH_take (i := 0) (v := ?_) rfl (by kernel_rfl) (by kernel_rfl) (by kernel_rfl) (fun _ _ _ h => h) (Or.inl ⟨by rfl, ?_⟩) (by assumption) ?_; rotate_left; (focus (intro w hSw; (try dsimp only at hSw); go_simp; first | done | with_reducible rfl)); go_simp)
      (refine wpAnyH_take (i := 1) (v := ?_) rfl (by kernel_rfl) (by kernel_rfl) (by kernel_rfl) (fun _ _ _ h => h) (Or.inl ⟨by rfl, ?_⟩) (by assumption) ?_; rotate_left; (focus (intro w hSw; (try dsimp only at hSw); go_simp; first | done | with_reducible rfl)); go_simp)
      (refine wpAnyH_take (i := 2) (v := ?_) rfl (by kernel_rfl) (by kernel_rfl) (by kernel_rfl) (fun _ _ _ h => h) (Or.inl ⟨by rfl, ?_⟩) (by assumption) ?_; rotate_left; (focus (intro w hSw; (try dsimp only at hSw); go_simp; first | done | with_reducible rfl)); go_simp)
      (refine wpAnyH_take (i := 3) (v := ?_) rfl (by kernel_rfl) (by kernel_rfl) (by kernel_rfl) (fun _ _ _ h => h) (Or.inl ⟨by rfl, ?_⟩) (by assumption) ?_; rotate_left; (focus (intro w hSw; (try dsimp only at hSw); go_simp; first | done | with_reducible rfl)); go_simp)
      (refine wpAnyH_take (i := 4) (v := ?_) rfl (by kernel_rfl) (by kernel_rfl) (by kernel_rfl) (fun _ _ _ h => h) (Or.inl ⟨by rfl, ?_⟩) (by assumption) ?_; rotate_left; (focus (intro w hSw; (try dsimp only at hSw); go_simp; first | done | with_reducible rfl)); go_simp)
      (refine wpAnyH_take (i := 5) (v := ?_) rfl (by kernel_rfl) (by kernel_rfl) (by kernel_rfl) (fun _ _ _ h => h) (Or.inl ⟨by rfl, ?_⟩) (by assumption) ?_; rotate_left; (focus (intro w hSw; (try dsimp only at hSw); go_simp; first | done | with_reducible rfl)); go_simp)
      (refine wpAnyH_take (i := 6) (v := ?_) rfl (by kernel_rfl) (by kernel_rfl) (by kernel_rfl) (fun _ _ _ h => h) (Or.inl ⟨by rfl, ?_⟩) (by assumption) ?_; rotate_left; (focus (intro w hSw; (try dsimp only at hSw); go_simp; first | done | with_reducible rfl)); go_simp)
      (refine wpAnyH_take (i := 7) (v := ?_) rfl (by kernel_rfl) (by kernel_rfl) (by kernel_rfl) (fun _ _ _ h => h) (Or.inl ⟨by rfl, ?_⟩) (by assumption) ?_; rotate_left; (focus (intro w hSw; (try dsimp only at hSw); go_simp; first | done | with_reducible rfl)); go_simp)
      (refine wpAnyH_take (i := 8) (v := ?_) rfl (by kernel_rfl) (by kernel_rfl) (by kernel_rfl) (fun _ _ _ h => h) (Or.inl ⟨by rfl, ?_⟩) (by assumption) ?_; rotate_left; (focus (intro w hSw; (try dsimp only at hSw); go_simp; first | done | with_reducible rfl)); go_simp)
      (refine wpAnyH_take (i := 9) (v := ?_) rfl (by kernel_rfl) (by kernel_rfl) (by kernel_rfl) (fun _ _ _ h => h) (Or.inl ⟨by rfl, ?_⟩) (by assumption) ?_; rotate_left; (focus (intro w hSw; (try dsimp only at hSw); go_simp; first | done | with_reducible rfl)); go_simp)
      refine wpAnyH_ready (rs := [10]) (by kernel_rfl) (by simp) ?_
      refine AllReadyH.cons rfl (fun K hK => ?_) AllReadyH.nil
      go_simp
      refine (HSm.out _ (Below.refl _ _).drew).mono ?_
      rintro e wq ⟨rfl, hBq⟩
      have hBd : Below wr.heap.size wr wq := (Below.refl _ _).drew.trans hBq
      have cc := fun b o hlt => hBd.cell (p := ⟨b, o, none⟩) hlt
      refine hK.out _ _ ⟨(cc _ _ l9).trans a5, (cc _ _ l11).trans y5, (cc _ _ hca).trans z0, (cc _ _ hca).trans z1, (cc _ _ hca).trans z2, (cc _ _ hca).trans z3, (cc _ _ hcb).trans u0, (cc _ _ hcb).trans u1, (cc _ _ hcb).trans u2, (cc _ _ hcb).trans u3, hBd⟩ (fun hHeld => ?_)
      clear hK K hBq cc
      go_simp
      (refine wpAnyH_take (i := 11) (v := ?_) rfl (by kernel_rfl) (by kernel_rfl) (by kernel_rfl) (fun _ _ _ h => h) (Or.inl ⟨by rfl, ?_⟩) (by assumption) ?_; rotate_left; (focus (intro w hSw; (try dsimp only at hSw); go_simp; first | done | with_reducible rfl)); go_simp)
      refine wpAnyH_done (by kernel_rfl) ?_ _
      have HBn := Lib.hid (HBr.out.trans (hBd.mono HBr.out.size))
      clear hHeld hBd z0 z1 z2 z3 u0 u1 u2 u3 a5 y5 l9 l11 q9 q11
      go_wp2_with fail
      go_roundw
      case rel => exact ⟨j + 1, by omega, by go_num, HBn.out⟩
      case measure => simp [intOf]; omega
    · have hd1 : decide ((j : Int) < (ml.length : Int)) = false := by simp; omega
      have hd1n : decide (j < ml.length) = false := by simp; omega
      have HK14 := Lib.hid (HK13.out.kept hBr)
      have HB14 := Lib.hid (HB13.out.trans (hBr.mono HB13.out.size))
      have HS14 := Lib.hid (HS13.out.kept hBr)
      have HRa14 := Lib.hid (HRa13.out.1.kept hBr)
      have HRb14 := Lib.hid (HRb13.out.1.kept hBr)
      clear HK13 HB13 HS13 HRa13 HRb13 HBr
      go_upto_region 23 with (fail)
      clear hd1 hd1n a5 y5 l9 l11 q9 q11 hBr
      have HMx : Hid (∀ W, nss.length ≤ 10000 → Glob W → ShE W 1000 (.slice As ks cs) hss nss → Calls Tryz.prog 14 #[tb 3 l0 h0 2, .agg #[.slice As ks cs], .slice none 0 0] W fun e w' => ∃ arr : Array Value, arr.size = 6 ∧ (∀ u ∈ arr.toList, u.oneCell' = true) ∧ e = .returned (.tuple #[.agg arr, .int .i64 (if missL N2 nss = [] then 0 else 6)]) ∧ Below W.heap.size W w') := Lib.hid (fun W hb hG hS => by
        by_cases hm : missL N2 nss = []
        · rw [if_pos hm]
          refine (HM3.out W hb hG hS hm).mono ?_
          rintro e w' ⟨v2, vm, rfl, h1, ⟨b, h2⟩, hB⟩
          obtain ⟨A, n, c, rfl⟩ := own_slice h1
          obtain ⟨A', c', rfl⟩ := rat_slice h2
          exact ⟨_, rfl, by simp [Value.oneCell'], rfl, hB⟩
        · rw [if_neg hm]
          refine (HM4.out W hb hS hm).mono ?_
          rintro e w' ⟨rfl, hB⟩
          exact ⟨zeroC, rfl, by simp [zeroC, Value.oneCell'], rfl, hB⟩)
      generalize hEE : (if missL N2 nss = [] then (0 : Int) else 6) = EE at HMx
      have HEE := Lib.hid hEE
      clear hEE HM1 HM2 HM3 HM4
      have q7 := HK14.out _ (show (b7, 29, #[.int .i64 3, .int .i64 l0, .int .i64 h0, .int .i64 2]) ∈ _ by simp)
      have q5 := HK14.out _ (show (b5, 33, #[.slice As ks cs]) ∈ _ by simp)
      have a0 := q7.cell 0
      have a1 := q7.cell 1
      have a2 := q7.cell 2
      have a3 := q7.cell 3
      have al := q7.lt
      have y0 := q5.cell 0
      have yl := q5.lt
      clear q7 q5
      go_wp2_with fail
      refine (HMx.out _ (by omega) (HG.out.kept HB14.out) HS14.out).mono ?_
      rintro e w15 ⟨arr, harr, hone, rfl, hB15⟩
      have HK15 := Lib.hid (HK14.out.kept hB15)
      have HB15 := Lib.hid (HB14.out.trans (hB15.mono HB14.out.size))
      have HRa15 := Lib.hid (HRa14.out.kept hB15)
      have HRb15 := Lib.hid (HRb14.out.kept hB15)
      have HArr := Lib.hid (And.intro harr hone)
      clear hB15 a0 a1 a2 a3 al y0 yl harr hone HRa14 HRb14
      go_upto_region 24 with (refine storeNewP A_whole rfl _ _ rfl rfl rfl arr rfl HArr.out.1 rfl HArr.out.2 ?_; intro X16 q16 hB16)
      have HK16 := Lib.hid (HK15.out.kept hB16)
      have HB16 := Lib.hid (HB15.out.trans (hB16.mono HB15.out.size))
      have HRa16 := Lib.hid (HRa15.out.kept hB16)
      have HRb16 := Lib.hid (HRb15.out.kept hB16)
      clear hB16 q16 HRa15 HRb15
      have hN400 := HNl.out
      have hNN := HN.out
      have hN2 : N2.length ≤ 400 := by omega
      clear hNN
      go_wp2_with fail
      go_loopw [16, 17] (fun o i wr => ∃ k : Nat, k ≤ N2.length ∧ i = .int .i64 k ∧ o = .int .i64 (cntN N1 (N2.take k)) ∧ Below X16.heap.size X16 wr) (fun _ i _ => N2.length - (intOf i).toNat)
      case atStart => exact ⟨0, by omega, rfl, by simp [cntN], Below.refl _ _⟩
      case round =>
        obtain ⟨k, hk, rfl, rfl, hBr⟩ := hrel
        have HBr := Lib.hid hBr
        have q9 := (HK16.out _ (show (b9, 46, #[.int .i64 3, .int .i64 l0, .int .i64 h0, .int .i64 1, .slice Aa N1.length ca, .slice Am ml.length cm]) ∈ _ by simp)).kept hBr
        have q11 := (HK16.out _ (show (b11, 46, #[.int .i64 3, .int .i64 l0, .int .i64 h0, .int .i64 2, .slice Ab N2.length cb, .slice An ml.length cn]) ∈ _ by simp)).kept hBr
        have a4 : wr.cell? ⟨b9, 4, none⟩ = some (.slice Aa N1.length ca) := q9.cell 4
        have l9 := q9.lt
        have y4 : wr.cell? ⟨b11, 4, none⟩ = some (.slice Ab N2.length cb) := q11.cell 4
        have l11 := q11.lt
        have hcn : cntN N1 (N2.take k) ≤ 400 := by have := cntN_le N1 (N2.take k); have := List.length_take_le k N2; omega
        by_cases hlt : k < N2.length
        · have hd1 : decide ((k : Int) < (N2.length : Int)) = true := by simp; omega
          have hd1n : decide (k < N2.length) = true := by simp; omega
          obtain ⟨xb, hxb⟩ : ∃ x, N2[k]? = some x := ⟨_, List.getElem?_eq_getElem hlt⟩
          have HTk := Lib.hid (show N2.take (k + 1) = N2.take k ++ [xb] by rw [List.take_add_one, hxb]; rfl)
          obtain ⟨_, Ab', cb', hvb, hcb, hAb⟩ := HRb16.out.kept hBr
          injection hvb with e1 e2 e3
          subst e1 e3
          obtain ⟨gb, ob, rfl, hgb, hcellb⟩ := hAb (by omega)
          have eb := hcellb k (st xb) (by rw [List.getElem?_map, hxb]; rfl)
          clear hAb hcellb hxb
          generalize hcq : cntN N1 (N2.take k) = cq at *
          have Hcq := Lib.hid hcq
          clear hcq
          go_wp2_with fail
          go_loopw [18, 19] (fun b i wv => ∃ q : Nat, q ≤ N1.length ∧ i = .int .i64 q ∧ b = .bool ((N1.take q).any fun s => decide (s = xb)) ∧ Below wr.heap.size wr wv) (fun _ i _ => N1.length - (intOf i).toNat)
          case atStart => exact ⟨0, by omega, rfl, by simp, Below.refl _ _⟩
          case round =>
            obtain ⟨q, hq, rfl, rfl, hBv⟩ := hrel
            have HBv := Lib.hid hBv
            have a4 := (hBv.cell (p := ⟨b9, 4, none⟩) l9).trans a4
            have y4 := (hBv.cell (p := ⟨b11, 4, none⟩) l11).trans y4
            have eb := (hBv.cell (p := ⟨gb, ob + k, none⟩) hgb).trans eb
            have l9v := Nat.lt_of_lt_of_le l9 hBv.size
            have l11v := Nat.lt_of_lt_of_le l11 hBv.size
            have hgbv := Nat.lt_of_lt_of_le hgb hBv.size
            by_cases hlt2 : q < N1.length
            · have hd2 : decide ((q : Int) < (N1.length : Int)) = true := by simp; omega
              have hd2n : decide (q < N1.length) = true := by simp; omega
              obtain ⟨xa, hxa⟩ : ∃ x, N1[q]? = some x := ⟨_, List.getElem?_eq_getElem hlt2⟩
              have HTq := Lib.hid (show N1.take (q + 1) = N1.take q ++ [xa] by rw [List.take_add_one, hxa]; rfl)
              obtain ⟨_, Aa', ca', hva, hca, hAa⟩ := (HRa16.out.kept hBr).kept hBv
              injection hva with e1 e2 e3
              subst e1 e3
              obtain ⟨ga, oa, rfl, hga, hcella⟩ := hAa (by omega)
              have ea := hcella q (st xa) (by rw [List.getElem?_map, hxa]; rfl)
              clear hAa hcella hxa
              have hqi : (q : Int) < (N1.length : Int) := by omega
              have hki : (k : Int) < (N2.length : Int) := by omega
              generalize hnA : N1.length = nA at *
              generalize hnB : N2.length = nB at *
              have HnA := Lib.hid (And.intro hnA hnB)
              clear hnA hnB
              generalize hbb : (N1.take q).any (fun s => decide (s = xb)) = bb at *
              have Hbb := Lib.hid hbb
              clear hbb
              cases bb with
              | true =>
                go_wp2_with fail
                refine wp_region_held_drew (S := (fun w' => w'.cell? ⟨b9, 4, none⟩ = some (.slice (some ⟨ga, oa, none⟩) nA ca) ∧ w'.cell? ⟨b11, 4, none⟩ = some (.slice (some ⟨gb, ob, none⟩) nB cb) ∧ w'.cell? ⟨ga, oa + q, none⟩ = some (st xa) ∧ w'.cell? ⟨gb, ob + k, none⟩ = some (st xb))) (by kernel_rfl) ⟨a4, y4, ea, eb⟩ (fun hHeld => ?_)
                (refine wpAnyH_take (i := 0) (v := ?_) rfl (by kernel_rfl) (by kernel_rfl) (by kernel_rfl) (fun _ _ _ h => h) (Or.inl ⟨by rfl, ?_⟩) (by assumption) ?_; rotate_left; (focus (intro w hSw; (try dsimp only at hSw); go_simp; first | done | with_reducible rfl)); go_simp)
                (refine wpAnyH_take (i := 1) (v := ?_) rfl (by kernel_rfl) (by kernel_rfl) (by kernel_rfl) (fun _ _ _ h => h) (Or.inl ⟨by rfl, ?_⟩) (by assumption) ?_; rotate_left; (focus (intro w hSw; (try dsimp only at hSw); go_simp; first | done | with_reducible rfl)); go_simp)
                (refine wpAnyH_take (i := 2) (v := undef) rfl (by kernel_rfl) (by kernel_rfl) (by kernel_rfl) (fun _ _ _ h => h) (Or.inr ⟨by rfl, rfl⟩) (by assumption) ?_; go_simp)
                (refine wpAnyH_take (i := 3) (v := undef) rfl (by kernel_rfl) (by kernel_rfl) (by kernel_rfl) (fun _ _ _ h => h) (Or.inr ⟨by rfl, rfl⟩) (by assumption) ?_; go_simp)
                (refine wpAnyH_take (i := 4) (v := undef) rfl (by kernel_rfl) (by kernel_rfl) (by kernel_rfl) (fun _ _ _ h => h) (Or.inr ⟨by rfl, rfl⟩) (by assumption) ?_; go_simp)
                (refine wpAnyH_take (i := 5) (v := undef) rfl (by kernel_rfl) (by kernel_rfl) (by kernel_rfl) (fun _ _ _ h => h) (Or.inr ⟨by rfl, rfl⟩) (by assumption) ?_; go_simp)
                (refine wpAnyH_take (i := 6) (v := undef) rfl (by kernel_rfl) (by kernel_rfl) (by kernel_rfl) (fun _ _ _ h => h) (Or.inr ⟨by rfl, rfl⟩) (by assumption) ?_; go_simp)
                (refine wpAnyH_take (i := 7) (v := undef) rfl (by kernel_rfl) (by kernel_rfl) (by kernel_rfl) (fun _ _ _ h => h) (Or.inr ⟨by rfl, rfl⟩) (by assumption) ?_; go_simp)
                (refine wpAnyH_take (i := 8) (v := undef) rfl (by kernel_rfl) (by kernel_rfl) (by kernel_rfl) (fun _ _ _ h => h) (Or.inr ⟨by rfl, rfl⟩) (by assumption) ?_; go_simp)
                (refine wpAnyH_take (i := 9) (v := undef) rfl (by kernel_rfl) (by kernel_rfl) (by kernel_rfl) (fun _ _ _ h => h) (Or.inr ⟨by rfl, rfl⟩) (by assumption) ?_; go_simp)
                (refine wpAnyH_take (i := 10) (v := undef) rfl (by kernel_rfl) (by kernel_rfl) (by kernel_rfl) (fun _ _ _ h => h) (Or.inr ⟨by rfl, rfl⟩) (by assumption) ?_; go_simp)
                (refine wpAnyH_take (i := 11) (v := undef) rfl (by kernel_rfl) (by kernel_rfl) (by kernel_rfl) (fun _ _ _ h => h) (Or.inr ⟨by rfl, rfl⟩) (by assumption) ?_; go_simp)
                (refine wpAnyH_take (i := 12) (v := undef) rfl (by kernel_rfl) (by kernel_rfl) (by kernel_rfl) (fun _ _ _ h => h) (Or.inr ⟨by rfl, rfl⟩) (by assumption) ?_; go_simp)
                (refine wpAnyH_take (i := 13) (v := ?_) rfl (by kernel_rfl) (by kernel_rfl) (by kernel_rfl) (fun _ _ _ h => h) (Or.inl ⟨by rfl, ?_⟩) (by assumption) ?_; rotate_left; (focus (intro w hSw; (try dsimp only at hSw); go_simp; first | done | with_reducible rfl)); go_simp)
                (refine wpAnyH_take (i := 14) (v := ?_) rfl (by kernel_rfl) (by kernel_rfl) (by kernel_rfl) (fun _ _ _ h => h) (Or.inl ⟨by rfl, ?_⟩) (by assumption) ?_; rotate_left; (focus (intro w hSw; (try dsimp only at hSw); go_simp; first | done | with_reducible rfl)); go_simp)
                refine wpAnyH_done (by kernel_rfl) ?_ _
                clear hHeld
                have HBd := Lib.hid (HBv.out.drew)
                go_wp2_with fail
                go_roundw
                case rel => exact ⟨q + 1, by omega, by go_num, by rw [HTq.out, List.any_append, Hbb.out]; rfl, HBd.out⟩
                case measure => simp [intOf]; omega
              | false =>
                by_cases hxx : xa = xb
                · have hxy := hxx.symm
                  clear hxx
                  subst hxy
                  go_wp2_with fail
                  refine wp_region_held_drew (S := (fun w' => w'.cell? ⟨b9, 4, none⟩ = some (.slice (some ⟨ga, oa, none⟩) nA ca) ∧ w'.cell? ⟨b11, 4, none⟩ = some (.slice (some ⟨gb, ob, none⟩) nB cb) ∧ w'.cell? ⟨ga, oa + q, none⟩ = some (st xb) ∧ w'.cell? ⟨gb, ob + k, none⟩ = some (st xb))) (by kernel_rfl) ⟨a4, y4, ea, eb⟩ (fun hHeld => ?_)
                  (refine wpAnyH_take (i := 0) (v := ?_) rfl (by kernel_rfl) (by kernel_rfl) (by kernel_rfl) (fun _ _ _ h => h) (Or.inl ⟨by rfl, ?_⟩) (by assumption) ?_; rotate_left; (focus (intro w hSw; (try dsimp only at hSw); go_simp; first | done | with_reducible rfl)); go_simp)
                  (refine wpAnyH_take (i := 1) (v := ?_) rfl (by kernel_rfl) (by kernel_rfl) (by kernel_rfl) (fun _ _ _ h => h) (Or.inl ⟨by rfl, ?_⟩) (by assumption) ?_; rotate_left; (focus (intro w hSw; (try dsimp only at hSw); go_simp; first | done | with_reducible rfl)); go_simp)
                  (refine wpAnyH_take (i := 2) (v := ?_) rfl (by kernel_rfl) (by kernel_rfl) (by kernel_rfl) (fun _ _ _ h => h) (Or.inl ⟨by rfl, ?_⟩) (by assumption) ?_; rotate_left; (focus (intro w hSw; (try dsimp only at hSw); go_simp; first | done | with_reducible rfl)); go_simp)
                  (refine wpAnyH_take (i := 3) (v := ?_) rfl (by kernel_rfl) (by kernel_rfl) (by kernel_rfl) (fun _ _ _ h => h) (Or.inl ⟨by rfl, ?_⟩) (by assumption) ?_; rotate_left; (focus (intro w hSw; (try dsimp only at hSw); go_simp; first | done | with_reducible rfl)); go_simp)
                  (refine wpAnyH_take (i := 4) (v := ?_) rfl (by kernel_rfl) (by kernel_rfl) (by kernel_rfl) (fun _ _ _ h => h) (Or.inl ⟨by rfl, ?_⟩) (by assumption) ?_; rotate_left; (focus (intro w hSw; (try dsimp only at hSw); go_simp; first | done | with_reducible rfl)); go_simp)
                  (refine wpAnyH_take (i := 5) (v := ?_) rfl (by kernel_rfl) (by kernel_rfl) (by kernel_rfl) (fun _ _ _ h => h) (Or.inl ⟨by rfl, ?_⟩) (by assumption) ?_; rotate_left; (focus (intro w hSw; (try dsimp only at hSw); go_simp; first | done | with_reducible rfl)); go_simp)
                  (refine wpAnyH_take (i := 6) (v := ?_) rfl (by kernel_rfl) (by kernel_rfl) (by kernel_rfl) (fun _ _ _ h => h) (Or.inl ⟨by rfl, ?_⟩) (by assumption) ?_; rotate_left; (focus (intro w hSw; (try dsimp only at hSw); go_simp; first | done | with_reducible rfl)); go_simp)
                  (refine wpAnyH_take (i := 7) (v := ?_) rfl (by kernel_rfl) (by kernel_rfl) (by kernel_rfl) (fun _ _ _ h => h) (Or.inl ⟨by rfl, ?_⟩) (by assumption) ?_; rotate_left; (focus (intro w hSw; (try dsimp only at hSw); go_simp; first | done | with_reducible rfl)); go_simp)
                  (refine wpAnyH_take (i := 8) (v := ?_) rfl (by kernel_rfl) (by kernel_rfl) (by kernel_rfl) (fun _ _ _ h => h) (Or.inl ⟨by rfl, ?_⟩) (by assumption) ?_; rotate_left; (focus (intro w hSw; (try dsimp only at hSw); go_simp; first | done | with_reducible rfl)); go_simp)
                  (refine wpAnyH_take (i := 9) (v := ?_) rfl (by kernel_rfl) (by kernel_rfl) (by kernel_rfl) (fun _ _ _ h => h) (Or.inl ⟨by rfl, ?_⟩) (by assumption) ?_; rotate_left; (focus (intro w hSw; (try dsimp only at hSw); go_simp; first | done | with_reducible rfl)); go_simp)
                  (refine wpAnyH_take (i := 10) (v := ?_) rfl (by kernel_rfl) (by kernel_rfl) (by kernel_rfl) (fun _ _ _ h => h) (Or.inl ⟨by rfl, ?_⟩) (by assumption) ?_; rotate_left; (focus (intro w hSw; (try dsimp only at hSw); go_simp; first | done | with_reducible rfl)); go_simp)
                  (refine wpAnyH_take (i := 11) (v := ?_) rfl (by kernel_rfl) (by kernel_rfl) (by kernel_rfl) (fun _ _ _ h => h) (Or.inl ⟨by rfl, ?_⟩) (by assumption) ?_; rotate_left; (focus (intro w hSw; (try dsimp only at hSw); go_simp; first | done | with_reducible rfl)); go_simp)
                  (refine wpAnyH_take (i := 12) (v := ?_) rfl (by kernel_rfl) (by kernel_rfl) (by kernel_rfl) (fun _ _ _ h => h) (Or.inl ⟨by rfl, ?_⟩) (by assumption) ?_; rotate_left; (focus (intro w hSw; (try dsimp only at hSw); go_simp; first | done | with_reducible rfl)); go_simp)
                  (refine wpAnyH_take (i := 13) (v := ?_) rfl (by kernel_rfl) (by kernel_rfl) (by kernel_rfl) (fun _ _ _ h => h) (Or.inl ⟨by rfl, ?_⟩) (by assumption) ?_; rotate_left; (focus (intro w hSw; (try dsimp only at hSw); go_simp; first | done | with_reducible rfl)); go_simp)
                  (refine wpAnyH_take (i := 14) (v := ?_) rfl (by kernel_rfl) (by kernel_rfl) (by kernel_rfl) (fun _ _ _ h => h) (Or.inl ⟨by rfl, ?_⟩) (by assumption) ?_; rotate_left; (focus (intro w hSw; (try dsimp only at hSw); go_simp; first | done | with_reducible rfl)); go_simp)
                  refine wpAnyH_done (by kernel_rfl) ?_ _
                  clear hHeld
                  have HBd := Lib.hid (HBv.out.drew)
                  go_wp2_with fail
                  go_roundw
                  case rel => exact ⟨q + 1, by omega, by go_num, by rw [HTq.out, List.any_append, Hbb.out]; simp, HBd.out⟩
                  case measure => simp [intOf]; omega
                · have hx1 : (xa == xb) = false := by simpa using hxx
                  have hx2 : ((⟨xa.toArray⟩ : ByteArray) == ⟨xb.toArray⟩) = false := by rw [st_inj]; simpa using hxx
                  have HXX := Lib.hid hxx
                  clear hxx
                  go_wp2_with fail
                  refine wp_region_held_drew (S := (fun w' => w'.cell? ⟨b9, 4, none⟩ = some (.slice (some ⟨ga, oa, none⟩) nA ca) ∧ w'.cell? ⟨b11, 4, none⟩ = some (.slice (some ⟨gb, ob, none⟩) nB cb) ∧ w'.cell? ⟨ga, oa + q, none⟩ = some (st xa) ∧ w'.cell? ⟨gb, ob + k, none⟩ = some (st xb))) (by kernel_rfl) ⟨a4, y4, ea, eb⟩ (fun hHeld => ?_)
                  (refine wpAnyH_take (i := 0) (v := ?_) rfl (by kernel_rfl) (by kernel_rfl) (by kernel_rfl) (fun _ _ _ h => h) (Or.inl ⟨by rfl, ?_⟩) (by assumption) ?_; rotate_left; (focus (intro w hSw; (try dsimp only at hSw); go_simp; first | done | with_reducible rfl)); go_simp)
                  (refine wpAnyH_take (i := 1) (v := ?_) rfl (by kernel_rfl) (by kernel_rfl) (by kernel_rfl) (fun _ _ _ h => h) (Or.inl ⟨by rfl, ?_⟩) (by assumption) ?_; rotate_left; (focus (intro w hSw; (try dsimp only at hSw); go_simp; first | done | with_reducible rfl)); go_simp)
                  (refine wpAnyH_take (i := 2) (v := ?_) rfl (by kernel_rfl) (by kernel_rfl) (by kernel_rfl) (fun _ _ _ h => h) (Or.inl ⟨by rfl, ?_⟩) (by assumption) ?_; rotate_left; (focus (intro w hSw; (try dsimp only at hSw); go_simp; first | done | with_reducible rfl)); go_simp)
                  (refine wpAnyH_take (i := 3) (v := ?_) rfl (by kernel_rfl) (by kernel_rfl) (by kernel_rfl) (fun _ _ _ h => h) (Or.inl ⟨by rfl, ?_⟩) (by assumption) ?_; rotate_left; (focus (intro w hSw; (try dsimp only at hSw); go_simp; first | done | with_reducible rfl)); go_simp)
                  (refine wpAnyH_take (i := 4) (v := ?_) rfl (by kernel_rfl) (by kernel_rfl) (by kernel_rfl) (fun _ _ _ h => h) (Or.inl ⟨by rfl, ?_⟩) (by assumption) ?_; rotate_left; (focus (intro w hSw; (try dsimp only at hSw); go_simp; first | done | with_reducible rfl)); go_simp)
                  (refine wpAnyH_take (i := 5) (v := ?_) rfl (by kernel_rfl) (by kernel_rfl) (by kernel_rfl) (fun _ _ _ h => h) (Or.inl ⟨by rfl, ?_⟩) (by assumption) ?_; rotate_left; (focus (intro w hSw; (try dsimp only at hSw); go_simp; first | done | with_reducible rfl)); go_simp)
                  (refine wpAnyH_take (i := 6) (v := ?_) rfl (by kernel_rfl) (by kernel_rfl) (by kernel_rfl) (fun _ _ _ h => h) (Or.inl ⟨by rfl, ?_⟩) (by assumption) ?_; rotate_left; (focus (intro w hSw; (try dsimp only at hSw); go_simp; first | done | with_reducible rfl)); go_simp)
                  (refine wpAnyH_take (i := 7) (v := ?_) rfl (by kernel_rfl) (by kernel_rfl) (by kernel_rfl) (fun _ _ _ h => h) (Or.inl ⟨by rfl, ?_⟩) (by assumption) ?_; rotate_left; (focus (intro w hSw; (try dsimp only at hSw); go_simp; first | done | with_reducible rfl)); go_simp)
                  (refine wpAnyH_take (i := 8) (v := ?_) rfl (by kernel_rfl) (by kernel_rfl) (by kernel_rfl) (fun _ _ _ h => h) (Or.inl ⟨by rfl, ?_⟩) (by assumption) ?_; rotate_left; (focus (intro w hSw; (try dsimp only at hSw); go_simp; first | done | with_reducible rfl)); go_simp)
                  (refine wpAnyH_take (i := 9) (v := ?_) rfl (by kernel_rfl) (by kernel_rfl) (by kernel_rfl) (fun _ _ _ h => h) (Or.inl ⟨by rfl, ?_⟩) (by assumption) ?_; rotate_left; (focus (intro w hSw; (try dsimp only at hSw); go_simp; first | done | with_reducible rfl)); go_simp)
                  (refine wpAnyH_take (i := 10) (v := ?_) rfl (by kernel_rfl) (by kernel_rfl) (by kernel_rfl) (fun _ _ _ h => h) (Or.inl ⟨by rfl, ?_⟩) (by assumption) ?_; rotate_left; (focus (intro w hSw; (try dsimp only at hSw); go_simp; first | done | with_reducible rfl)); go_simp)
                  (refine wpAnyH_take (i := 11) (v := ?_) rfl (by kernel_rfl) (by kernel_rfl) (by kernel_rfl) (fun _ _ _ h => h) (Or.inl ⟨by rfl, ?_⟩) (by assumption) ?_; rotate_left; (focus (intro w hSw; (try dsimp only at hSw); go_simp; first | done | with_reducible rfl)); go_simp)
                  (refine wpAnyH_take (i := 12) (v := ?_) rfl (by kernel_rfl) (by kernel_rfl) (by kernel_rfl) (fun _ _ _ h => h) (Or.inl ⟨by rfl, ?_⟩) (by assumption) ?_; rotate_left; (focus (intro w hSw; (try dsimp only at hSw); go_simp; first | done | with_reducible rfl)); go_simp)
                  (refine wpAnyH_take (i := 13) (v := ?_) rfl (by kernel_rfl) (by kernel_rfl) (by kernel_rfl) (fun _ _ _ h => h) (Or.inl ⟨by rfl, ?_⟩) (by assumption) ?_; rotate_left; (focus (intro w hSw; (try dsimp only at hSw); go_simp; first | done | with_reducible rfl)); go_simp)
                  (refine wpAnyH_take (i := 14) (v := ?_) rfl (by kernel_rfl) (by kernel_rfl) (by kernel_rfl) (fun _ _ _ h => h) (Or.inl ⟨by rfl, ?_⟩) (by assumption) ?_; rotate_left; (focus (intro w hSw; (try dsimp only at hSw); go_simp; first | done | with_reducible rfl)); go_simp)
                  refine wpAnyH_done (by kernel_rfl) ?_ _
                  clear hHeld
                  have HBd := Lib.hid (HBv.out.drew)
                  go_wp2_with fail
                  go_roundw
                  case rel => exact ⟨q + 1, by omega, by go_num, by rw [HTq.out, List.any_append, Hbb.out]; simp [HXX.out], HBd.out⟩
                  case measure => simp [intOf]; omega
            · have hd2 : decide ((q : Int) < (N1.length : Int)) = false := by simp; omega
              have hd2n : decide (q < N1.length) = false := by simp; omega
              have HAny := Lib.hid (show ((N1.take q).any fun s => decide (s = xb)) = decide (xb ∈ N1) by rw [List.take_of_length_le (by omega)]; exact any_mem N1 xb)
              rw [HAny.out]
              have HBn := Lib.hid (HBr.out.trans (HBv.out.mono HBr.out.size))
              clear HAny
              by_cases hin : xb ∈ N1
              · have hde : decide (xb ∈ N1) = true := by simpa using hin
                have Hc := Lib.hid (show cntN N1 (N2.take (k + 1)) = cq by rw [HTk.out, cntN_snoc, if_pos hin, Hcq.out])
                generalize decide (xb ∈ N1) = dd at *
                subst hde
                clear hin
                go_wp2_with fail
                go_roundw
                case rel => exact ⟨k + 1, by omega, by go_num, by rw [Hc.out], HBn.out⟩
                case measure => simp [intOf]; omega
              · have hde : decide (xb ∈ N1) = false := by simpa using hin
                have Hc := Lib.hid (show cntN N1 (N2.take (k + 1)) = cq + 1 by rw [HTk.out, cntN_snoc, if_neg hin, Hcq.out])
                generalize decide (xb ∈ N1) = dd at *
                subst hde
                clear hin
                go_wp2_with fail
                go_roundw
                case rel => exact ⟨k + 1, by omega, by go_num, by rw [Hc.out]; go_num, HBn.out⟩
                case measure => simp [intOf]; omega
        · have hd1 : decide ((k : Int) < (N2.length : Int)) = false := by simp; omega
          have hd1n : decide (k < N2.length) = false := by simp; omega
          have hce : cntN N1 (N2.take k) = cntN N1 N2 := by rw [List.take_of_length_le (by omega)]
          rw [hce]
          rw [hce] at hcn
          have hz := cntN_miss (N1 := N1) (N2 := N2) (ns := nss) HmS.out.1 HNx.out.2
          have HBf := Lib.hid (HB16.out.trans (HBr.out.mono HB16.out.size))
          have hE := HEE.out
          clear hce HEE
          by_cases hz0 : missL N2 nss = []
          · have h00 : cntN N1 N2 = 0 := hz.1 hz0
            rw [if_pos hz0] at hE
            subst hE
            rw [h00]
            clear hz hz0 h00 hcn
            go_wp2_with fail
            go_ret
            exact ⟨rfl, HBf.out⟩
          · have h00 : ¬ cntN N1 N2 = 0 := fun h => hz0 (hz.2 h)
            rw [if_neg hz0] at hE
            subst hE
            generalize cntN N1 N2 = cz at *
            have hz1 : ((cz : Int) == 0) = false := by rw [beq_eq_false_iff_ne]; omega
            have hz2 : (cz == 0) = false := by rw [beq_eq_false_iff_ne]; omega
            clear hz hz0
            go_wp2_with fail
            go_ret
            exact ⟨rfl, HBf.out⟩

end Go.Proofs.YtbjpaleigokbaaaGreatDoor
