/- Contract of the reference's shelf without the entries of a name. -/
import Derived.Test.YtbjpaleigokbaaaGreatDoorMI
import Derived.Test.YtbjpaleigokbaaaGreatDoorMQ
namespace Go.Proofs.YtbjpaleigokbaaaGreatDoor
open Go.RowKit

theorem run_buildShelf0 (w : World) : (Instr.build 33 #[]).run Tryz.prog w = .ok (.agg #[.slice none 0 0]) w := by kernel_rfl

/-- the entries that stay -/
def kpt (x : List UInt8) (zs : List (List Value × List UInt8)) (j : Nat) : List (List Value × List UInt8) := (zs.take j).filter fun z => !decide (z.2 = x)
theorem kpt_same {x : List UInt8} {zs : List (List Value × List UInt8)} {j : Nat} {h : List Value} (hj : zs[j]? = some (h, x)) : kpt x zs (j + 1) = kpt x zs j := by
  unfold kpt
  rw [List.take_add_one, hj, List.filter_append]
  simp
theorem kpt_more {x s : List UInt8} {zs : List (List Value × List UInt8)} {j : Nat} {h : List Value} (hj : zs[j]? = some (h, s)) (hne : s ≠ x) : kpt x zs (j + 1) = kpt x zs j ++ [(h, s)] := by
  unfold kpt
  rw [List.take_add_one, hj, List.filter_append]
  simp [hne]
theorem kpt_len (x : List UInt8) (zs : List (List Value × List UInt8)) (j : Nat) : (kpt x zs j).length ≤ zs.length := by
  unfold kpt
  exact Nat.le_trans (List.length_filter_le _ _) (by simp; omega)

theorem ShE.ofOwn {w' : World} {m base : Nat} {vo : Value} {zs : List (List Value × List UInt8)} (hE : ∀ z ∈ zs, EntOk w' m z.1 z.2) (ho : w'.ownsRow base 126 32 vo zs.length (zs.map (·.1)).flatten) : ShE w' m vo (zs.map (·.1)) (zs.map (·.2)) := by
  refine ⟨by simp, fun k h s hh hs => ?_, ?_⟩
  · rw [List.getElem?_map] at hh hs
    cases hz : zs[k]? with
    | none => rw [hz] at hh; cases hh
    | some z =>
      rw [hz] at hh hs
      simp at hh hs
      subst hh hs
      exact hE z (List.mem_of_getElem? hz)
  · rcases id ho.2 with ⟨rfl, h0⟩ | ⟨g, cap, cur, rfl, hg, hh, h1, h2, h3, h4⟩
    · exact .inl ⟨rfl, by rw [List.length_eq_zero_iff.1 h0]; rfl⟩
    · refine .inr ⟨g, cap, cur, by simp, hh, by simpa using h1, h2, fun j u hu => ?_⟩
      rw [← h4] at hu
      have hj : j < zs.length * 32 := by
        have := (List.getElem?_eq_some_iff.1 hu).1
        simp at this; omega
      rw [List.getElem?_take_of_lt hj] at hu
      simpa using hu

theorem own_sl {w : World} {base : Nat} {e : TypeId} {size : Nat} {v : Value} {n : Nat} {xs : List Value} (h : w.ownsRow base e size v n xs) : ∃ A m c, v = .slice A m c := by
  rcases h.2 with ⟨rfl, _⟩ | ⟨g, cap, _, rfl, _⟩
  · exact ⟨_, _, _, rfl⟩
  · exact ⟨_, _, _, rfl⟩
/-- the state of the search -/
structure DropSt (w wr : World) (v : Value) (x : List UInt8) (zs : List (List Value × List UInt8)) (j : Nat) : Prop where
  q2 : Bk wr w.heap.size 33 #[v]
  q4 : Bk wr (w.heap.size + 1) 33 #[.slice none 0 0]
  out : ∃ vo, Bk wr (w.heap.size + 1 + 1) 33 #[vo] ∧ wr.ownsRow w.heap.size 126 32 vo (kpt x zs j).length ((kpt x zs j).map (·.1)).flatten
  below : Below w.heap.size w wr

set_option maxRecDepth 100000 in
set_option maxHeartbeats 8000000 in
theorem Drop_calls (m : Nat) (v : Value) (hs : List (List Value)) (ns : List (List UInt8)) (x : List UInt8) (w : World) (hS : ShE w m v hs ns) (hn : ns.length ≤ 10000) (hx : x.length ≤ 1000) :
    Calls Tryz.prog 21 #[.agg #[v], st x] w fun e w' => ∃ v' hs' ns', e = .returned (.agg #[v']) ∧ ShE w' m v' hs' ns' ∧ (∀ s, s ∈ ns' ↔ s ∈ ns ∧ s ≠ x) ∧ ns'.length ≤ ns.length ∧ Below w.heap.size w w' := by
  have HZE := Lib.hid (show ∀ z ∈ hs.zip ns, EntOk w m z.1 z.2 from fun z hz => by
    obtain ⟨k, hk⟩ := List.getElem?_of_mem hz
    rw [List.getElem?_zip_eq_some] at hk
    exact hS.2.1 k z.1 z.2 hk.1 hk.2)
  have HZl := Lib.hid (show (hs.zip ns).length = hs.length by rw [List.length_zip, hS.1]; omega)
  have HZ2 := Lib.hid (show (hs.zip ns).map (·.2) = ns from List.map_snd_zip (by rw [hS.1]; exact Nat.le_refl _))
  have HZ1 := Lib.hid (show (hs.zip ns).map (·.1) = hs from List.map_fst_zip (by rw [hS.1]; exact Nat.le_refl _))
  have HLen := Lib.hid hS.len
  have hnl : hs.length ≤ 10000 := by rw [hS.1]; exact hn
  obtain ⟨A, cap, rfl, hA⟩ : ∃ A cap, v = .slice A hs.length cap ∧ (0 < hs.length → ∃ g, A = some ⟨g, 0, none⟩ ∧ g < w.heap.size ∧ hs.length ≤ cap ∧ ∀ (j : Nat) (u : Value), hs.flatten[j]? = some u → w.cell? ⟨g, j, none⟩ = some u) := by
    rcases hS.2.2 with ⟨rfl, rfl⟩ | ⟨g, cap, cur, rfl, q, hc, _, hf⟩
    · exact ⟨none, 0, rfl, fun h => by simp at h⟩
    · exact ⟨_, cap, rfl, fun _ => ⟨g, rfl, q.lt, hc, fun j u hu => by rw [q.cell]; exact hf j u hu⟩⟩
  have HA := Lib.hid hA
  clear hS hA
  generalize hzs : hs.zip ns = zs at *
  have HZs := Lib.hid hzs
  generalize hnn : hs.length = n at *
  have Hnn := Lib.hid hnn
  clear hzs hnn
  have hb := run_buildShelf0
  go_enter Tryz.func21, Tryz.ntmps21
  go_wp2_with fail
  clear hb
  have q2 := ((Bk.new w 33 #[.slice A n cap]).alloc (.cells #[.slice none 0 0] 33)).alloc (.cells #[.slice none 0 0] 33)
  have q4 := (Bk.new (w.alloc (.cells #[.slice A n cap] 33)) 33 #[.slice none 0 0]).alloc (.cells #[.slice none 0 0] 33)
  have q5 := Bk.new ((w.alloc (.cells #[.slice A n cap] 33)).alloc (.cells #[.slice none 0 0] 33)) 33 #[.slice none 0 0]
  have hB0 : Below w.heap.size w (((w.alloc (.cells #[.slice A n cap] 33)).alloc (.cells #[.slice none 0 0] 33)).alloc (.cells #[.slice none 0 0] 33)) := (((Below.refl _ _).alloc (Nat.le_refl _) _).alloc (by simp) _).alloc (by simp; omega) _
  simp only [World.size_alloc] at q4 q5
  generalize ((w.alloc (.cells #[.slice A n cap] 33)).alloc (.cells #[.slice none 0 0] 33)).alloc (.cells #[.slice none 0 0] 33) = W at *
  go_loopw [6] (fun i wr => ∃ j : Nat, j ≤ n ∧ i = .int .i64 j ∧ DropSt w wr (.slice A n cap) x zs j) (fun i _ => n - (intOf i).toNat)
  case atStart => exact ⟨0, by omega, rfl, ⟨q2, q4, ⟨_, q5, by simpa [kpt] using World.ownsRow_nil W w.heap.size 126 32⟩, hB0⟩⟩
  case round =>
    clear q2 q4 q5 hB0
    obtain ⟨j, hj, rfl, ⟨q2, q4, ⟨vo, q5, ho⟩, hB⟩⟩ := hrel
    have c2 := q2.cell 0
    have l2 := q2.lt
    by_cases hlt : j < n
    · obtain ⟨g, rfl, hgl, hcap, hf⟩ := HA.out (by omega)
      obtain ⟨z, hz⟩ : ∃ z, zs[j]? = some z := ⟨_, List.getElem?_eq_getElem (by rw [HZl.out]; exact hlt)⟩
      obtain ⟨h, s⟩ := z
      have hE : EntOk w m h s := HZE.out _ (List.mem_of_getElem? hz)
      have hk : hs[j]? = some h := by rw [← HZ1.out, List.getElem?_map, hz]; rfl
      have HC := Lib.hid (sh_cells (W := wr) HLen.out hk hf (fun o => hB.cell (p := ⟨g, o, none⟩) hgl))
      have Hl := Lib.hid (HLen.out h (List.mem_of_getElem? hk))
      have Ho := Lib.hid hE.one
      obtain ⟨va, k', sg, scap, sl, hh, _⟩ := hE.ex
      have hc0 : wr.cell? ⟨g, j * 32, none⟩ = some (st s) := HC.out 0 _ (by rw [hh]; rfl)
      have HH := Lib.hid hh
      have hcv : decide ((0 : Int) ≤ (j : Int)) = true := by simp
      clear hE hk hf hh
      have hgw : g < wr.heap.size := Nat.lt_of_lt_of_le hgl hB.size
      by_cases he : s = x
      · have hb1 : (s == x) = true := by simpa using he
        subst he
        have HK := Lib.hid (kpt_same hz)
        go_wp2_with fail
        go_roundw
        case rel => exact ⟨j + 1, by omega, by go_num, q2, q4, ⟨vo, q5, by rw [HK.out]; exact ho⟩, hB⟩
        case measure => simp [intOf]; omega
      · have hb1 : (s == x) = false := by simpa using he
        have HK := Lib.hid (kpt_more hz he)
        have hkl : (kpt x zs j).length ≤ n := by have := kpt_len x zs j; rw [HZl.out] at this; exact this
        have c5 := q5.cell 0
        have l5 := q5.lt
        go_wp2_with fail
        refine wp_region_T (fun j => decide (10 ≤ j)) (S := (fun w' => w'.cell? ⟨w.heap.size + 1 + 1, 0, none⟩ = some vo ∧ w'.cell? ⟨w.heap.size, 0, none⟩ = some (.slice (some ⟨g, 0, none⟩) n cap) ∧ ∀ o, w'.cell? ⟨g, o, none⟩ = wr.cell? ⟨g, o, none⟩)) (by kernel_rfl) ⟨c5, c2, fun _ => rfl⟩ (fun hHeld => ?_)
        (refine wpT_take (i := 0) (v := ?_) rfl (by kernel_rfl) (by kernel_rfl) (by kernel_rfl) (by kernel_rfl) (fun _ _ _ h => h) (Or.inl ⟨by rfl, ?_⟩) (by assumption) ?_; rotate_left; (focus (intro w hSw; (try dsimp only at hSw); go_simp; first | done | with_reducible rfl)); go_simp)
        (refine wpT_take (i := 1) (v := ?_) rfl (by kernel_rfl) (by kernel_rfl) (by kernel_rfl) (by kernel_rfl) (fun _ _ _ h => h) (Or.inl ⟨by rfl, ?_⟩) (by assumption) ?_; rotate_left; (focus (intro w hSw; (try dsimp only at hSw); go_simp; first | done | with_reducible rfl)); go_simp)
        (refine wpT_take (i := 2) (v := ?_) rfl (by kernel_rfl) (by kernel_rfl) (by kernel_rfl) (by kernel_rfl) (fun _ _ _ h => h) (Or.inl ⟨by rfl, ?_⟩) (by assumption) ?_; rotate_left; (focus (intro w hSw; (try dsimp only at hSw); go_simp; first | done | with_reducible rfl)); go_simp)
        (refine wpT_take (i := 3) (v := ?_) rfl (by kernel_rfl) (by kernel_rfl) (by kernel_rfl) (by kernel_rfl) (fun _ _ _ h => h) (Or.inl ⟨by rfl, ?_⟩) (by assumption) ?_; rotate_left; (focus (intro w hSw; (try dsimp only at hSw); go_simp; first | done | with_reducible rfl)); go_simp)
        (refine wpT_take (i := 4) (v := ?_) rfl (by kernel_rfl) (by kernel_rfl) (by kernel_rfl) (by kernel_rfl) (fun _ _ _ h => h) (Or.inl ⟨by rfl, ?_⟩) (by assumption) ?_; rotate_left; (focus (intro w hSw; (try dsimp only at hSw); go_simp; first | done | with_reducible rfl)); go_simp)
        (refine wpT_take (i := 5) (v := ?_) rfl (by kernel_rfl) (by kernel_rfl) (by kernel_rfl) (by kernel_rfl) (fun _ _ _ h => h) (Or.inl ⟨by rfl, ?_⟩) (by assumption) ?_; rotate_left; (focus (intro w hSw; (try dsimp only at hSw); go_simp; first | done | with_reducible rfl)); go_simp)
        (refine wpT_take (i := 6) (v := .agg h.toArray) rfl (by kernel_rfl) (by kernel_rfl) (by kernel_rfl) (by kernel_rfl) (fun _ _ _ h => h) (Or.inl ⟨by rfl, ?_⟩) (by assumption) ?_; (focus (intro wq hSw; exact run_loadW A_held _ rfl g (j * 32) rfl h Hl.out (fun i u hu => (hSw.2.2 _).trans (HC.out i u hu)))); go_simp)
        have hal := (Below.refl wr.drew.heap.size wr.drew).alloc (Nat.le_refl _) (.cells h.toArray 126)
        have hd := (Below.refl wr.heap.size wr).drew
        have q2a := (q2.kept hd).kept hal
        have q4a := (q4.kept hd).kept hal
        have q5a := (q5.kept hd).kept hal
        have hoa := ownsRow_kept (ownsRow_kept ho hd) hal
        have hBa := (hB.trans (hd.mono hB.size)).trans (hal.mono (Nat.le_trans hB.size hd.size))
        have HNw := Lib.hid (cells_new wr.drew h 126)
        have hga : (wr.drew.alloc (.cells h.toArray 126)).heap.size = wr.heap.size + 1 := by simp
        refine wpT_ready (rs := [7]) (by kernel_rfl) (by simp) ?_
        refine AllT.cons rfl (fun K hK => ?_) AllT.nil
        refine sBsl (qs := #[(0, .agg h.toArray)]) rfl rfl (by go_simp) (bsl_of rfl HH.out wr.drew) ?_
        refine hK.out _ _ (fun _ => ⟨q5a.cell 0, q2a.cell 0, fun o => (hBa.cell (p := ⟨g, o, none⟩) hgl).trans (hB.cell (p := ⟨g, o, none⟩) hgl).symm⟩) (fun hHeld => ?_)
        clear hK K
        generalize hwa : wr.drew.alloc (.cells h.toArray 126) = wa at *
        clear hwa
        go_simp
        refine wpT_ready (rs := [8]) (by kernel_rfl) (by simp) ?_
        refine AllT.cons rfl (fun K hK => ?_) AllT.nil
        refine stepApp T_held rfl _ _ rfl w.heap.size vo (kpt x zs j).length _ rfl hoa wr.heap.size 0 1 1 h rfl Hl.out HNw.out Ho.out (by omega) (by omega) hBa.size ?_
        intro vb wb howb hgb hnb
        have q2b := q2a.grown hgb (q2a.norow hoa (by decide))
        have q4b := q4a.grown hgb (q4a.norow hoa (by decide))
        have q5b := q5a.grown hgb (q5a.norow hoa (by decide))
        have hBb := hBa.grown hgb hBa.size (fun k hk => (hoa.lt k hk).1)
        refine hK.out _ _ (fun _ => ⟨q5b.cell 0, q2b.cell 0, fun o => (hBb.cell (p := ⟨g, o, none⟩) hgl).trans (hB.cell (p := ⟨g, o, none⟩) hgl).symm⟩) (fun hHeld => ?_)
        clear hK K
        go_simp
        have hHeld := hHeld rfl
        (refine wpT_take (i := 9) (v := ?_) rfl (by kernel_rfl) (by kernel_rfl) (by kernel_rfl) (by kernel_rfl) (fun _ _ _ h => h) (Or.inl ⟨by rfl, ?_⟩) (by assumption) ?_; rotate_left; (focus (intro w hSw; (try dsimp only at hSw); go_simp; first | done | with_reducible rfl)); go_simp)
        obtain ⟨A6, m6, c6, rfl⟩ := own_sl howb
        have f0 := q5b.cell 0
        have ff := q5b.frozen 0
        have lf := q5b.lt
        refine wpT_ready (rs := [10]) (by kernel_rfl) (by simp) ?_
        refine AllT.cons rfl (fun K hK => ?_) AllT.nil
        go_simp
        refine hK.out _ _ (fun h => by cases h) (fun _ => ?_)
        clear hK K
        go_simp
        refine wpT_done (by kernel_rfl) ?_ _
        have hoc := ownsRow_far howb (p := ⟨w.heap.size + 1 + 1, 0, none⟩) (fun e => (q5b.norow howb (by decide)) e.symm) (.slice A6 m6 c6)
        have HF := Lib.hid (show DropSt w (wb.setCell ⟨w.heap.size + 1 + 1, 0, none⟩ (.slice A6 m6 c6)) (.slice (some ⟨g, 0, none⟩) n cap) x zs (j + 1) from
          ⟨q2b.far _ (by simp; omega), q4b.far _ (by simp), ⟨_, q5b.put 0 _, by rw [HK.out, List.length_append, List.map_append, List.flatten_append]; simpa using hoc⟩, hBb.setCell (p := ⟨w.heap.size + 1 + 1, 0, none⟩) (by simp; omega) _⟩)
        generalize wb.setCell ⟨w.heap.size + 1 + 1, 0, none⟩ (.slice A6 m6 c6) = wc at *
        clear f0 ff lf q2a q4a q5a q2b q4b q5b hoc howb hoa hHeld
        go_wp2_with fail
        go_roundw
        case rel => exact ⟨j + 1, by omega, by go_num, HF.out⟩
        case measure => simp [intOf]; omega
    · obtain rfl : j = n := by omega
      have c5 := q5.cell 0
      have l5 := q5.lt
      have c4 := q4.cell 0
      have f4 := q4.frozen 0
      have l4 := q4.lt
      obtain ⟨A6, m6, c6, rfl⟩ := own_sl ho
      have HF := Lib.hid (show ShE (wr.setCell ⟨w.heap.size + 1, 0, none⟩ (.slice A6 m6 c6)) m (.slice A6 m6 c6) ((kpt x zs j).map (·.1)) ((kpt x zs j).map (·.2)) from
        ShE.ofOwn (fun z hz => ((HZE.out z (List.mem_of_mem_take (List.mem_filter.1 hz).1)).kept (hB.setCell (p := ⟨w.heap.size + 1, 0, none⟩) (by simp) (.slice A6 m6 c6)) (Nat.le_refl _))) (ownsRow_far ho (p := ⟨w.heap.size + 1, 0, none⟩) (fun e => (q4.norow ho (by decide)) e.symm) (.slice A6 m6 c6)))
      have q4b := q4.put 0 (.slice A6 m6 c6)
      have HBf := Lib.hid (hB.setCell (p := ⟨w.heap.size + 1, 0, none⟩) (by simp) (.slice A6 m6 c6))
      go_wp2_with fail
      have c9 := q4b.cell 0
      refine bodyPost_ret (v := .agg #[.slice A6 m6 c6]) (by simp [results, Tryz.results21, go_sem, c9]) rfl ?_
      refine ⟨_, _, _, rfl, HF.out, fun s => ?_, ?_, HBf.out⟩
      · unfold kpt
        rw [← HZ2.out, List.take_of_length_le (by rw [HZl.out]; exact Nat.le_refl _)]
        simp only [List.mem_map, List.mem_filter]
        constructor
        · rintro ⟨z, ⟨hz, hne⟩, rfl⟩
          exact ⟨⟨z, hz, rfl⟩, by simpa using hne⟩
        · rintro ⟨⟨z, hz, rfl⟩, hne⟩
          exact ⟨z, ⟨hz, by simpa using hne⟩, rfl⟩
      · rw [List.length_map]
        have := kpt_len x zs j
        rw [← HZ2.out, List.length_map]
        exact this

end Go.Proofs.YtbjpaleigokbaaaGreatDoor
