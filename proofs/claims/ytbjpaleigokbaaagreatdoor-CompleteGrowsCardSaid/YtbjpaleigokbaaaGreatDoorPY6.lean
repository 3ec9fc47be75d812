/- Contract of the reference's union of two shelves. -/
import Derived.Test.YtbjpaleigokbaaaGreatDoorPMI
import Derived.Test.YtbjpaleigokbaaaGreatDoorPMX
namespace Go.Proofs.YtbjpaleigokbaaaGreatDoor.G
open Go.RowKit Go.Proofs.YtbjpaleigokbaaaGreatDoor

/-- the state of the union: so many entries were added -/
structure MgSt (w wr : World) (v2 : Value) (ns1 : List Lb) (c : Nat) : Prop where
  q3 : Bk wr (w.heap.size + 1) 33 #[v2]
  q4 : Bk wr (w.heap.size + 1 + 1) 33 #[.slice none 0 0]
  out : ∃ v m hs ns, Bk wr (w.heap.size + 1 + 1 + 1) 33 #[v] ∧ ShE wr m v hs ns ∧ m ≤ 1000 + c ∧ (∀ s, s ∈ ns1 → s ∈ ns) ∧ ns.length ≤ 1000 + c
  below : Below w.heap.size w wr
theorem MgSt.more {w wr : World} {v2 : Value} {ns1 : List Lb} {c c' : Nat} (h : MgSt w wr v2 ns1 c) (hc : c ≤ c') : MgSt w wr v2 ns1 c' := by
  obtain ⟨v, m, hs, ns, q, hS, h1, h2, h3⟩ := h.out
  exact ⟨h.q3, h.q4, ⟨v, m, hs, ns, q, hS, by omega, h2, by omega⟩, h.below⟩

set_option maxRecDepth 100000 in
set_option maxHeartbeats 8000000 in
theorem Merge_calls (m1 m2 : Nat) (v1 v2 : Value) (hs1 hs2 : List (List Value)) (ns1 ns2 : List Lb) (w : World) (hS1 : ShE w m1 v1 hs1 ns1) (hS2 : ShE w m2 v2 hs2 ns2) (hm1 : m1 ≤ 1000) (hm2 : m2 ≤ 1000) (hn1 : ns1.length ≤ 1000) (hn2 : ns2.length ≤ 1000) :
    Calls Tryz.prog 23 #[.agg #[v1], .agg #[v2]] w fun e w' => ∃ v hs ns, e = .returned (.agg #[v]) ∧ ShE w' 1001000 v hs ns ∧ (∀ s, s ∈ ns1 → s ∈ ns) ∧ ns.length ≤ 1001000 ∧ Below w.heap.size w w' := by
  have HS2 := Lib.hid hS2
  have HLen := Lib.hid hS2.len
  have hnl : hs2.length ≤ 1000 := by rw [hS2.1]; exact hn2
  obtain ⟨A, cap, rfl, hA⟩ : ∃ A cap, v2 = .slice A hs2.length cap ∧ (0 < hs2.length → ∃ g, A = some ⟨g, 0, none⟩ ∧ g < w.heap.size ∧ hs2.length ≤ cap ∧ ∀ (j : Nat) (u : Value), hs2.flatten[j]? = some u → w.cell? ⟨g, j, none⟩ = some u) := by
    rcases hS2.2.2 with ⟨rfl, rfl⟩ | ⟨g, cap, cur, rfl, q, hc, _, hf⟩
    · exact ⟨none, 0, rfl, fun h => by simp at h⟩
    · exact ⟨_, cap, rfl, fun _ => ⟨g, rfl, q.lt, hc, fun j u hu => by rw [q.cell]; exact hf j u hu⟩⟩
  have HA := Lib.hid hA
  obtain ⟨Av1, nv1, cv1, rfl⟩ := hS1.slice
  have HS1 := Lib.hid hS1
  clear hS2 hS1 hA
  generalize hnn : hs2.length = n at *
  have Hnn := Lib.hid hnn
  clear hnn
  go_enter Tryz.func23, Tryz.ntmps23
  go_wp2_with fail
  have z3 := ((Bk.new (w.alloc (.cells #[.slice Av1 nv1 cv1] 33)) 33 #[.slice A n cap]).alloc (.cells #[.slice none 0 0] 33)).alloc (.cells #[.slice Av1 nv1 cv1] 33)
  have z4 := (Bk.new ((w.alloc (.cells #[.slice Av1 nv1 cv1] 33)).alloc (.cells #[.slice A n cap] 33)) 33 #[.slice none 0 0]).alloc (.cells #[.slice Av1 nv1 cv1] 33)
  have z5 := Bk.new (((w.alloc (.cells #[.slice Av1 nv1 cv1] 33)).alloc (.cells #[.slice A n cap] 33)).alloc (.cells #[.slice none 0 0] 33)) 33 #[.slice Av1 nv1 cv1]
  have hB0 : Below w.heap.size w ((((w.alloc (.cells #[.slice Av1 nv1 cv1] 33)).alloc (.cells #[.slice A n cap] 33)).alloc (.cells #[.slice none 0 0] 33)).alloc (.cells #[.slice Av1 nv1 cv1] 33)) := ((((Below.refl _ _).alloc (Nat.le_refl _) _).alloc (by simp) _).alloc (by simp; omega) _).alloc (by simp; omega) _
  simp only [World.size_alloc] at z3 z4 z5
  generalize (((w.alloc (.cells #[.slice Av1 nv1 cv1] 33)).alloc (.cells #[.slice A n cap] 33)).alloc (.cells #[.slice none 0 0] 33)).alloc (.cells #[.slice Av1 nv1 cv1] 33) = W1 at *
  have HF := Lib.hid (show MgSt w W1 (.slice A n cap) ns1 (1000 * 0) from ⟨z3, z4, ⟨_, m1, hs1, ns1, z5, HS1.out.kept hB0, by omega, fun _ h => h, by omega⟩, hB0⟩)
  clear z3 z4 z5 hB0
  go_loopw [6] (fun i wr => ∃ j : Nat, j ≤ n ∧ i = .int .i64 j ∧ MgSt w wr (.slice A n cap) ns1 (1000 * j)) (fun i _ => n - (intOf i).toNat)
  case atStart => exact ⟨0, by omega, rfl, HF.out⟩
  case round =>
    clear HF
    obtain ⟨j, hj, rfl, hM⟩ := hrel
    have c3 := hM.q3.cell 0
    have l3 := hM.q3.lt
    by_cases hlt : j < n
    · obtain ⟨g, rfl, hgl, hcap, hf⟩ := HA.out (by omega)
      have hh : hs2[j]? = some (hs2[j]'(by rw [Hnn.out]; exact hlt)) := List.getElem?_eq_getElem _
      have hp : ns2[j]? = some (ns2[j]'(by rw [← HS2.out.1, Hnn.out]; exact hlt)) := List.getElem?_eq_getElem _
      have e := HS2.out.2.1 j _ _ hh hp
      generalize hs2[j]'(by rw [Hnn.out]; exact hlt) = h at *
      generalize ns2[j]'(by rw [← HS2.out.1, Hnn.out]; exact hlt) = s at *
      have HSh := Lib.hid e.short
      obtain ⟨va, hy, kk, sg, scap, sl, hh0, hI, hk1, hks, hT, hml, hH⟩ := e.ex
      have HC := Lib.hid (fun (wq : World) (hb : ∀ o, wq.cell? ⟨g, o, none⟩ = w.cell? ⟨g, o, none⟩) => sh_cells (W := wq) HLen.out hh hf hb)
      obtain ⟨E, hE⟩ : ∃ E, E = entC s.1 va hy := ⟨_, rfl⟩
      rw [← hE] at hh0
      have HEl := Lib.hid (show E.length = 31 by rw [hE]; rfl)
      have HCe := Lib.hid (fun (wq : World) (hb : ∀ o, wq.cell? ⟨g, o, none⟩ = w.cell? ⟨g, o, none⟩) (i : Nat) (u : Value) (hu : E[i]? = some u) => HC.out wq hb i u (by rw [hh0, List.getElem?_append_left (List.getElem?_eq_some_iff.1 hu).1]; exact hu))
      have HCs := Lib.hid (fun (wq : World) (hb : ∀ o, wq.cell? ⟨g, o, none⟩ = w.cell? ⟨g, o, none⟩) => HC.out wq hb 31 (.slice (some ⟨sg, 0, none⟩) sl.length scap) (by rw [hh0, List.getElem?_append_right (by rw [HEl.out]; exact Nat.le_refl _), HEl.out]; rfl))
      have HAdd := Lib.hid (fun m v hs ns x1 x2 x3 W (hb : Below w.heap.size w W) hS hm hl => Add_any m v hs ns s va hy kk x1 x2 x3 W hS (hI.kept hb) (hH.kept hb) hk1 hks HSh.out hm hl)
      rw [← hE] at HAdd
      obtain ⟨sc, qs, hsc1, hsc2, hsc⟩ := hT
      have HSr := Lib.hid (fun (k : Nat) (x : Int × Int × Int) (hx : sl[k]? = some x) => show (w.cell? ⟨sg, k * 3, none⟩ = some (.int .i64 x.1) ∧ w.cell? ⟨sg, k * 3 + 1, none⟩ = some (.int .i64 x.2.1) ∧ w.cell? ⟨sg, k * 3 + 1 + 1, none⟩ = some (.int .i64 x.2.2)) from by
        have h3 := srC_at sl k x hx
        refine ⟨?_, ?_, ?_⟩ <;> rw [qs.cell]
        · exact hsc _ _ h3.1
        · exact hsc _ _ h3.2.1
        · exact hsc _ _ h3.2.2)
      have hsl := qs.lt
      have hsll : sl.length ≤ 1000 := by omega
      have hBr := hM.below
      have hcs := HCs.out wr (fun o => hBr.cell (p := ⟨g, o, none⟩) hgl)
      clear hh hp e hh0 hI hk1 hks qs hsc hH hE hf HC
      have HM := Lib.hid hM
      clear hM hBr
      have hd0 : (0 : Int) ≤ (j : Int) := by omega
      have hd1 : (j : Int) < (n : Int) := by omega
      go_wp2_with fail
      go_loopw [7] (fun i wr => ∃ k : Nat, k ≤ sl.length ∧ i = .int .i64 k ∧ MgSt w wr (.slice (some ⟨g, 0, none⟩) n cap) ns1 (1000 * j + k)) (fun i _ => sl.length - (intOf i).toNat)
      case atStart => exact ⟨0, by omega, rfl, HM.out⟩
      case round =>
        clear HM c3 l3 hcs
        rename_i wq
        obtain ⟨k, hk, rfl, hM⟩ := hrel
        obtain ⟨v, m, hs, ns, q5, hS, hm, hsub, hnl'⟩ := hM.out
        obtain ⟨Av, nv, cv, rfl⟩ := hS.slice
        have hBr := hM.below
        have q3 := hM.q3
        have q4 := hM.q4
        have c3 := q3.cell 0
        have l3 := q3.lt
        have c5 := q5.cell 0
        have hcs := HCs.out wr (fun o => hBr.cell (p := ⟨g, o, none⟩) hgl)
        by_cases hkl : k < sl.length
        · have hx : sl[k]? = some (sl[k]'hkl) := List.getElem?_eq_getElem _
          generalize sl[k]'hkl = x at hx
          obtain ⟨x1, x2, x3⟩ := x
          obtain ⟨s0, s1, s2⟩ := HSr.out k _ hx
          have e0 := (hBr.cell (p := ⟨sg, k * 3, none⟩) hsl).trans s0
          have e1 := (hBr.cell (p := ⟨sg, k * 3 + 1, none⟩) hsl).trans s1
          have e2 := (hBr.cell (p := ⟨sg, k * 3 + 1 + 1, none⟩) hsl).trans s2
          have HCw := Lib.hid (HCe.out wr (fun o => hBr.cell (p := ⟨g, o, none⟩) hgl))
          have HA2 := Lib.hid (HAdd.out m (.slice Av nv cv) hs ns x1 x2 x3 wr.drew hBr.drew (hS.kept (Below.refl _ _).drew) (by omega) (by rw [hS.1]; omega))
          have hd3 : (0 : Int) ≤ (k : Int) := by omega
          have hd4 : (k : Int) < (sl.length : Int) := by omega
          clear hx s0 s1 s2
          go_wp2_with fail
          refine wp_region_T (fun j => decide (17 ≤ j)) (S := (fun w' => w'.cell? ⟨w.heap.size + 1 + 1 + 1, 0, none⟩ = some (.slice Av nv cv) ∧ w'.cell? ⟨w.heap.size + 1, 0, none⟩ = some (.slice (some ⟨g, 0, none⟩) n cap) ∧ w'.cell? ⟨g, j * 32 + 31, none⟩ = some (.slice (some ⟨sg, 0, none⟩) sl.length scap) ∧ w'.cell? ⟨sg, k * 3, none⟩ = some (.int .i64 x1) ∧ w'.cell? ⟨sg, k * 3 + 1, none⟩ = some (.int .i64 x2) ∧ w'.cell? ⟨sg, k * 3 + 1 + 1, none⟩ = some (.int .i64 x3) ∧ ∀ o, w'.cell? ⟨g, o, none⟩ = wr.cell? ⟨g, o, none⟩)) (by kernel_rfl) ⟨c5, c3, hcs, e0, e1, e2, fun _ => rfl⟩ (fun hHeld => ?_)
          (refine wpT_take (i := 0) (v := ?_) rfl (by kernel_rfl) (by kernel_rfl) (by kernel_rfl) (by kernel_rfl) (fun _ _ _ h => h) (Or.inl ⟨by rfl, ?_⟩) (by assumption) ?_; rotate_left; (focus (intro w hSw; (try dsimp only at hSw); go_simp; first | done | with_reducible rfl)); go_simp)
          (refine wpT_take (i := 1) (v := ?_) rfl (by kernel_rfl) (by kernel_rfl) (by kernel_rfl) (by kernel_rfl) (fun _ _ _ h => h) (Or.inl ⟨by rfl, ?_⟩) (by assumption) ?_; rotate_left; (focus (intro w hSw; (try dsimp only at hSw); go_simp; first | done | with_reducible rfl)); go_simp)
          (refine wpT_take (i := 2) (v := ?_) rfl (by kernel_rfl) (by kernel_rfl) (by kernel_rfl) (by kernel_rfl) (fun _ _ _ h => h) (Or.inl ⟨by rfl, ?_⟩) (by assumption) ?_; rotate_left; (focus (intro w hSw; (try dsimp only at hSw); go_simp; first | done | with_reducible rfl)); go_simp)
          (refine wpT_take (i := 3) (v := ?_) rfl (by kernel_rfl) (by kernel_rfl) (by kernel_rfl) (by kernel_rfl) (fun _ _ _ h => h) (Or.inl ⟨by rfl, ?_⟩) (by assumption) ?_; rotate_left; (focus (intro w hSw; (try dsimp only at hSw); go_simp; first | done | with_reducible rfl)); go_simp)
          (refine wpT_take (i := 4) (v := ?_) rfl (by kernel_rfl) (by kernel_rfl) (by kernel_rfl) (by kernel_rfl) (fun _ _ _ h => h) (Or.inl ⟨by rfl, ?_⟩) (by assumption) ?_; rotate_left; (focus (intro w hSw; (try dsimp only at hSw); go_simp; first | done | with_reducible rfl)); go_simp)
          (refine wpT_take (i := 5) (v := ?_) rfl (by kernel_rfl) (by kernel_rfl) (by kernel_rfl) (by kernel_rfl) (fun _ _ _ h => h) (Or.inl ⟨by rfl, ?_⟩) (by assumption) ?_; rotate_left; (focus (intro w hSw; (try dsimp only at hSw); go_simp; first | done | with_reducible rfl)); go_simp)
          (refine wpT_take (i := 6) (v := .agg E.toArray) rfl (by kernel_rfl) (by kernel_rfl) (by kernel_rfl) (by kernel_rfl) (fun _ _ _ h => h) (Or.inl ⟨by rfl, ?_⟩) (by assumption) ?_; (focus (intro wq hSw; exact run_loadW A_entry _ rfl g (j * 32) rfl E HEl.out (fun i u hu => (hSw.2.2.2.2.2.2 _).trans (HCw.out i u hu)))); go_simp)
          (refine wpT_take (i := 7) (v := ?_) rfl (by kernel_rfl) (by kernel_rfl) (by kernel_rfl) (by kernel_rfl) (fun _ _ _ h => h) (Or.inl ⟨by rfl, ?_⟩) (by assumption) ?_; rotate_left; (focus (intro w hSw; (try dsimp only at hSw); go_simp; first | done | with_reducible rfl)); go_simp)
          (refine wpT_take (i := 8) (v := ?_) rfl (by kernel_rfl) (by kernel_rfl) (by kernel_rfl) (by kernel_rfl) (fun _ _ _ h => h) (Or.inl ⟨by rfl, ?_⟩) (by assumption) ?_; rotate_left; (focus (intro w hSw; (try dsimp only at hSw); go_simp; first | done | with_reducible rfl)); go_simp)
          (refine wpT_take (i := 9) (v := ?_) rfl (by kernel_rfl) (by kernel_rfl) (by kernel_rfl) (by kernel_rfl) (fun _ _ _ h => h) (Or.inl ⟨by rfl, ?_⟩) (by assumption) ?_; rotate_left; (focus (intro w hSw; (try dsimp only at hSw); go_simp; first | done | with_reducible rfl)); go_simp)
          (refine wpT_take (i := 10) (v := ?_) rfl (by kernel_rfl) (by kernel_rfl) (by kernel_rfl) (by kernel_rfl) (fun _ _ _ h => h) (Or.inl ⟨by rfl, ?_⟩) (by assumption) ?_; rotate_left; (focus (intro w hSw; (try dsimp only at hSw); go_simp; first | done | with_reducible rfl)); go_simp)
          (refine wpT_take (i := 11) (v := ?_) rfl (by kernel_rfl) (by kernel_rfl) (by kernel_rfl) (by kernel_rfl) (fun _ _ _ h => h) (Or.inl ⟨by rfl, ?_⟩) (by assumption) ?_; rotate_left; (focus (intro w hSw; (try dsimp only at hSw); go_simp; first | done | with_reducible rfl)); go_simp)
          (refine wpT_take (i := 12) (v := ?_) rfl (by kernel_rfl) (by kernel_rfl) (by kernel_rfl) (by kernel_rfl) (fun _ _ _ h => h) (Or.inl ⟨by rfl, ?_⟩) (by assumption) ?_; rotate_left; (focus (intro w hSw; (try dsimp only at hSw); go_simp; first | done | with_reducible rfl)); go_simp)
          (refine wpT_take (i := 13) (v := ?_) rfl (by kernel_rfl) (by kernel_rfl) (by kernel_rfl) (by kernel_rfl) (fun _ _ _ h => h) (Or.inl ⟨by rfl, ?_⟩) (by assumption) ?_; rotate_left; (focus (intro w hSw; (try dsimp only at hSw); go_simp; first | done | with_reducible rfl)); go_simp)
          (refine wpT_take (i := 14) (v := ?_) rfl (by kernel_rfl) (by kernel_rfl) (by kernel_rfl) (by kernel_rfl) (fun _ _ _ h => h) (Or.inl ⟨by rfl, ?_⟩) (by assumption) ?_; rotate_left; (focus (intro w hSw; (try dsimp only at hSw); go_simp; first | done | with_reducible rfl)); go_simp)
          (refine wpT_take (i := 15) (v := ?_) rfl (by kernel_rfl) (by kernel_rfl) (by kernel_rfl) (by kernel_rfl) (fun _ _ _ h => h) (Or.inl ⟨by rfl, ?_⟩) (by assumption) ?_; rotate_left; (focus (intro w hSw; (try dsimp only at hSw); go_simp; first | done | with_reducible rfl)); go_simp)
          refine wpT_ready (rs := [16]) (by kernel_rfl) (by simp) ?_
          refine AllT.cons rfl (fun K hK => ?_) AllT.nil
          go_simp
          refine HA2.out.mono ?_
          rintro e w7 ⟨v', hs', ns', rfl, hS', hmem', hnl2, hB7⟩
          obtain ⟨A7, k7, c7, rfl⟩ := hS'.slice
          have hBd : Below wr.heap.size wr w7 := (Below.refl _ _).drew.trans hB7
          have cc := fun b o hlt => hBd.cell (p := ⟨b, o, none⟩) hlt
          refine hK.out _ _ (fun _ => ⟨(cc _ _ q5.lt).trans c5, (cc _ _ q3.lt).trans c3, (cc _ _ (Nat.lt_of_lt_of_le hgl hBr.size)).trans hcs, (cc _ _ (Nat.lt_of_lt_of_le hsl hBr.size)).trans e0, (cc _ _ (Nat.lt_of_lt_of_le hsl hBr.size)).trans e1, (cc _ _ (Nat.lt_of_lt_of_le hsl hBr.size)).trans e2, fun o => cc _ _ (Nat.lt_of_lt_of_le hgl hBr.size)⟩) (fun hHeld => ?_)
          clear hK K cc
          go_simp
          have hHeld := hHeld rfl
          have p5 := q5.kept hBd
          have f0 := p5.cell 0
          have ff := p5.frozen 0
          have lf := p5.lt
          refine wpT_ready (rs := [17]) (by kernel_rfl) (by simp) ?_
          refine AllT.cons rfl (fun K hK => ?_) AllT.nil
          go_simp
          refine hK.out _ _ (fun h => by cases h) (fun _ => ?_)
          clear hK K
          go_simp
          refine wpT_done (by kernel_rfl) ?_ _
          have HF := Lib.hid (show MgSt w (w7.setCell ⟨w.heap.size + 1 + 1 + 1, 0, none⟩ (.slice A7 k7 c7)) (.slice (some ⟨g, 0, none⟩) n cap) ns1 (1000 * j + (k + 1)) from
            ⟨(q3.kept hBd).far _ (by simp), (q4.kept hBd).far _ (by simp), ⟨_, m + 1, hs', ns', p5.put 0 _, hS'.far p5 0 _, by omega, fun s hs => (hmem' s).2 (.inl (hsub s hs)), by omega⟩, (hBr.trans (hBd.mono hBr.size)).setCell (p := ⟨w.heap.size + 1 + 1 + 1, 0, none⟩) (by simp; omega) _⟩)
          generalize w7.setCell ⟨w.heap.size + 1 + 1 + 1, 0, none⟩ (.slice A7 k7 c7) = w8 at *
          clear f0 ff lf p5 hHeld hS' hmem' hB7 hBd q3 q4 q5 hS hM hBr c3 l3 c5 hcs e0 e1 e2
          go_wp2_with fail
          go_roundw
          case rel => exact ⟨k + 1, by omega, by go_num, HF.out⟩
          case measure => simp [intOf]; omega
        · obtain rfl : k = sl.length := by omega
          have HF := Lib.hid (hM.more (show 1000 * j + sl.length ≤ 1000 * (j + 1) by omega))
          clear hM q3 q4 q5 hS hBr c5
          go_wp2_with fail
          go_roundw
          case rel => exact ⟨j + 1, by omega, by go_num, HF.out⟩
          case measure => simp [intOf]; omega
    · obtain rfl : j = n := by omega
      obtain ⟨v, m, hs, ns, q5, hS, hm, hsub, hnl'⟩ := hM.out
      obtain ⟨Av, nv, cv, rfl⟩ := hS.slice
      have c5 := q5.cell 0
      have l5 := q5.lt
      have q4 := hM.q4
      have c4 := q4.cell 0
      have f4 := q4.frozen 0
      have l4 := q4.lt
      have hBr := hM.below
      have HF := Lib.hid (And.intro ((hS.more (m' := 1001000) (by omega)).far q4 0 (.slice Av nv cv)) (hBr.setCell (p := ⟨w.heap.size + 1 + 1, 0, none⟩) (by simp; omega) (.slice Av nv cv)))
      have q4b := q4.put 0 (.slice Av nv cv)
      have HN := Lib.hid (show ns.length ≤ 1001000 by omega)
      clear hBr hM hS q5
      go_wp2_with fail
      have c9 := q4b.cell 0
      exact bodyPost_ret (v := .agg #[.slice Av nv cv]) (by simp [results, Tryz.results23, go_sem, c9]) rfl ⟨_, _, _, rfl, HF.out.1, hsub, HN.out, HF.out.2⟩
end Go.Proofs.YtbjpaleigokbaaaGreatDoor.G
