/- Contract of the reference's adding of an entry to a shelf that is empty, and to any shelf. Steps over wide values in regions that draw their order. Contract of the reference's shelf of a description, with all objects and without hypotheses. -/
import Derived.Test.YtfmjapfncjmcoaaGreatDoorKDMG
import Derived.Deep.Cut
set_option maxRecDepth 100000
set_option maxHeartbeats 32000000
namespace Go.Proofs.YtfmjapfncjmcoaaGreatDoor.G
open Go.RowKit Go.Proofs.YtfmjapfncjmcoaaGreatDoor
theorem Add_none (m : Nat) (nm : Lb) (va hy : Value) (k : List (Bool × List Nat)) (x1 x2 x3 : Int) (w : World)
  (hI : RdT w va k) (hH : RdH w hy nm.2) (hk : k.length ≤ 1) (hks : ∀ x ∈ k, x.2.length ≤ 1000) (hnm : nm.1.length ≤ 1000) :
  Calls Tryz.prog 14 #[.agg #[.slice none 0 0], .agg (entC nm.1 va hy).toArray, sr (x1, x2, x3)] w (RetShelf w m [] nm) := by
 have HI := Lib.hid hI
 have HHy := Lib.hid hH
 have HK := Lib.hid (And.intro hk hks)
 have HEl0 := entC_len nm.1 va hy
 generalize hE : entC nm.1 va hy = E at *
 have HE := Lib.hid hE.symm
 have HEl := Lib.hid HEl0
 have HB0 : Below w.heap.size w ((((w.alloc (.cells #[.slice none 0 0] 40)).alloc (.cells E.toArray 87)).alloc (.cells #[.int .i64 x1, .int .i64 x2, .int .i64 x3] 89)).alloc (.cells #[.slice none 0 0] 40)) := ((((Below.refl _ _).alloc (Nat.le_refl _) _).alloc (by simp) _).alloc (by simp; omega) _).alloc (by simp; omega) _
 have qbwr := (((Bk.new w 40 #[.slice none 0 0]).alloc (.cells E.toArray 87)).alloc (.cells #[.int .i64 x1, .int .i64 x2, .int .i64 x3] 89)).alloc (.cells #[.slice none 0 0] 40)
 have qewr := ((Bk.new (w.alloc (.cells #[.slice none 0 0] 40)) 87 E.toArray).alloc (.cells #[.int .i64 x1, .int .i64 x2, .int .i64 x3] 89)).alloc (.cells #[.slice none 0 0] 40)
 have qxwr := (Bk.new ((w.alloc (.cells #[.slice none 0 0] 40)).alloc (.cells E.toArray 87)) 89 #[.int .i64 x1, .int .i64 x2, .int .i64 x3]).alloc (.cells #[.slice none 0 0] 40)
 have qowr := Bk.new (((w.alloc (.cells #[.slice none 0 0] 40)).alloc (.cells E.toArray 87)).alloc (.cells #[.int .i64 x1, .int .i64 x2, .int .i64 x3] 89)) 40 #[.slice none 0 0]
 simp only [World.size_alloc] at qewr qxwr qowr
 have HBwr := Lib.hid HB0
 clear hE HEl0 hI hH hk hks HB0
 go_enter Tryz.func14, Tryz.ntmps14
 go_wp2_with fail
 generalize (((w.alloc (.cells #[.slice none 0 0] 40)).alloc (.cells E.toArray 87)).alloc (.cells #[.int .i64 x1, .int .i64 x2, .int .i64 x3] 89)).alloc (.cells #[.slice none 0 0] 40) = wr at *
 go_loopw [7] (fun i wv => i = .int .i64 0 ∧ wv = wr) (fun _ _ => 0)
 case atStart => exact ⟨rfl, rfl⟩
 case round =>
  obtain ⟨rfl, rfl⟩ := hrel
  have hbwr := qewr.lt
  have b3wr := qbwr.cell 0
  have l3wr := qbwr.lt
  have Hewr := Lib.hid (bk_list qewr)
  obtain ⟨x0wr, x1wr, x2wr, _, _, _⟩ := qxwr.six
  have lxwr := qxwr.lt
  go_wp2_with fail
  refine wp_region_held_drew (S := (fun w' => (∀ b o, b < wr.heap.size → w'.cell? ⟨b, o, none⟩ = wr.cell? ⟨b, o, none⟩) ∧ Below wr.heap.size wr w')) (by kernel_rfl) (sk_start _) (fun hHeld => ?_)
  refine tkH 0 rfl ?_; go_simp
  refine tkH 1 rfl ?_; go_simp
  refine tkH 2 rfl ?_; go_simp
  refine tkH 3 rfl ?_; go_simp
  refine tkH 4 rfl ?_; go_simp
  refine tkH 5 rfl ?_; go_simp
  refine tkU 6 rfl ?_; go_simp
  refine tkU 7 rfl ?_; go_simp
  refine tkU 8 rfl ?_; go_simp
  refine tkU 9 rfl ?_; go_simp
  refine tkU 10 rfl ?_; go_simp
  refine tkU 11 rfl ?_; go_simp
  refine tkU 12 rfl ?_; go_simp
  refine tkU 13 rfl ?_; go_simp
  refine tkU 14 rfl ?_; go_simp
  refine tkH 15 rfl ?_; go_simp
  refine wpAnyH_done (by kernel_rfl) ?_ _
  clear hHeld hbwr b3wr l3wr x0wr x1wr x2wr lxwr
  have hbb' := (Below.refl wr.heap.size wr).drew
  have qewry := qewr.kept hbb'
  have qbwry := qbwr.kept hbb'
  have qxwry := qxwr.kept hbb'
  have qowry := qowr.kept hbb'
  have HBwry := Lib.hid (HBwr.out.trans (Below.mono hbb' HBwr.out.size))
  clear qbwr qewr qxwr qowr hbb'
  generalize wr.drew = wry at *
  have hal := (Below.refl wry.heap.size wry).alloc (Nat.le_refl _) (.cells #[] 123)
  have howna := (OwnS.made (base := wry.heap.size) wry 123 32 (Nat.le_refl _)).own
  have Hb4 := Lib.hid (show w.heap.size ≤ wry.heap.size from HBwry.out.size)
  have hbwry := qewry.lt
  have b3wry := qbwry.cell 0
  have l3wry := qbwry.lt
  have Hewry := Lib.hid (bk_list qewry)
  obtain ⟨x0wry, x1wry, x2wry, _, _, _⟩ := qxwry.six
  have lxwry := qxwry.lt
  have qewa := qewry.kept hal
  have qbwa := qbwry.kept hal
  have qxwa := qxwry.kept hal
  have qowa := qowry.kept hal
  have HBwa := Lib.hid (HBwry.out.trans (Below.mono hal HBwry.out.size))
  clear hal
  go_wp2_with (at_builtin; refine appNil T_held rfl _ _ rfl _ 0 0 rfl rfl (Nat.le_refl _) ?_)
  generalize wry.alloc (.cells #[] 123) = wa at *
  clear hbwry b3wry l3wry x0wry x1wry x2wry lxwry qbwry qewry qxwry qowry
  have hbwa := qewa.lt
  have b3wa := qbwa.cell 0
  have l3wa := qbwa.lt
  have Hewa := Lib.hid (bk_list qewa)
  obtain ⟨x0wa, x1wa, x2wa, _, _, _⟩ := qxwa.six
  have lxwa := qxwa.lt
  go_wp2_with fail
  refine wp_region_held_drew (S := (fun w' => (∀ b o, b < wa.heap.size → w'.cell? ⟨b, o, none⟩ = wa.cell? ⟨b, o, none⟩) ∧ Below wa.heap.size wa w')) (by kernel_rfl) (sk_start _) (fun hHeld => ?_)
  refine tkH 0 rfl ?_; go_simp
  refine tkH 1 rfl ?_; go_simp
  refine tkH 2 rfl ?_; go_simp
  refine tkH 3 rfl ?_; go_simp
  refine tkH 4 rfl ?_; go_simp
  refine tkH 5 rfl ?_; go_simp
  refine tkU 6 rfl ?_; go_simp
  refine tkU 7 rfl ?_; go_simp
  refine tkU 8 rfl ?_; go_simp
  refine tkU 9 rfl ?_; go_simp
  refine tkU 10 rfl ?_; go_simp
  refine tkU 11 rfl ?_; go_simp
  refine tkU 12 rfl ?_; go_simp
  refine tkU 13 rfl ?_; go_simp
  refine tkU 14 rfl ?_; go_simp
  refine tkH 15 rfl ?_; go_simp
  refine wpAnyH_done (by kernel_rfl) ?_ _
  clear hHeld hbwa b3wa l3wa x0wa x1wa x2wa lxwa
  have hbb' := (Below.refl wa.heap.size wa).drew
  have qeway := qewa.kept hbb'
  have qbway := qbwa.kept hbb'
  have qxway := qxwa.kept hbb'
  have qoway := qowa.kept hbb'
  have HBway := Lib.hid (HBwa.out.trans (Below.mono hbb' HBwa.out.size))
  have hown5 := ownsRow_kept howna hbb'
  clear qbwa qewa qxwa qowa hbb' howna
  generalize wa.drew = way at *
  generalize wry.heap.size = g4 at *
  have hbway := qeway.lt
  have b3way := qbway.cell 0
  have l3way := qbway.lt
  have Heway := Lib.hid (bk_list qeway)
  obtain ⟨x0way, x1way, x2way, _, _, _⟩ := qxway.six
  have lxway := qxway.lt
  obtain ⟨H, hH⟩ : ∃ H, H = E ++ [.slice (some ⟨way.heap.size, 0, none⟩) (List.length [(x1, x2, x3)]) 1] := ⟨_, rfl⟩
  have HHl := Lib.hid (show H.length = 1 * 32 by rw [hH, List.length_append, HEl.out]; rfl)
  have hal1 := (Below.refl way.heap.size way).alloc (Nat.le_refl _) (.cells #[.int .i64 x1, .int .i64 x2, .int .i64 x3] 89)
  have hsr0 := SrcT.one way x1 x2 x3
  have HHo := Lib.hid (show ∀ u ∈ H, u.oneCell' = true by rw [hH]; exact held_one HE.out HI.out.one HHy.out.one _ _ _)
  have HBd := Lib.hid (show ∀ W, (Instr.build 123 #[(0, (.agg E.toArray : Value)), (1, (.slice (some ⟨way.heap.size, 0, none⟩) 1 1 : Value))]).run Tryz.prog W = .ok (.agg H.toArray) W from fun W => by rw [hH]; exact held_of HE.out _ 1 1 W)
  have HBs := Lib.hid (show (Instr.buildSlice 38 1 #[(0, (.agg H.toArray : Value))]).run Tryz.prog (way.alloc (.cells #[.int .i64 x1, .int .i64 x2, .int .i64 x3] 89)) = .ok (.slice (some ⟨way.heap.size + 1, 0, none⟩) 1 1) ((way.alloc (.cells #[.int .i64 x1, .int .i64 x2, .int .i64 x3] 89)).alloc (.cells H.toArray 123)) from by have := bsl_of HE.out hH (way.alloc (.cells #[.int .i64 x1, .int .i64 x2, .int .i64 x3] 89)); rwa [World.size_alloc] at this)
  have HH := Lib.hid hH
  clear hH
  have hal2 := hal1.alloc (by simp) (.cells H.toArray 123)
  have hal3 := (Below.refl (way.alloc (.cells #[.int .i64 x1, .int .i64 x2, .int .i64 x3] 89)).heap.size _).alloc (Nat.le_refl _) (.cells H.toArray 123)
  have qewx := qeway.kept hal2
  have qbwx := qbway.kept hal2
  have qxwx := qxway.kept hal2
  have qowx := qoway.kept hal2
  have HBwx := Lib.hid (HBway.out.trans (Below.mono hal2 HBway.out.size))
  have own6 := (hown5.alloc (.cells #[.int .i64 x1, .int .i64 x2, .int .i64 x3] 89)).alloc (.cells H.toArray 123)
  have hsx := hsr0.kept hal3
  have HNw := Lib.hid (cells_new1 way (.cells #[.int .i64 x1, .int .i64 x2, .int .i64 x3] 89) H 123)
  clear hal1 hal2 hal3 hsr0
  have HX6 := Lib.hid (fun (wc : World) (hgc : ((way.alloc (.cells #[.int .i64 x1, .int .i64 x2, .int .i64 x3] 89)).alloc (.cells H.toArray 123)).grownBy wc (some g4)) => And.intro (hsx.row own6 hgc) (And.intro (qewx.grown hgc (qewx.norow own6 (by decide))) (And.intro (qbwx.grown hgc (qbwx.norow own6 (by decide))) (And.intro (qxwx.grown hgc (qxwx.norow own6 (by decide))) (And.intro (qowx.grown hgc (qowx.norow own6 (by decide))) (HBwx.out.grown hgc HBwx.out.size (fun k hk => by have := (own6.lt k hk).1; have := Hb4.out; omega)))))))
  clear hsx qewx qbwx qxwx qowx
  go_upto_region 9 with (first | (refine loadW A_entry rfl _ rfl (w.heap.size + 1) 0 rfl E HEl.out Heway.out ?_) | ((with_reducible refine lBuild2 (t := 123) (v1 := .agg E.toArray) (v2 := .slice (some ⟨way.heap.size, 0, none⟩) 1 1) rfl rfl ?_ ?_ (HBd.out _) ?_); rfl; rfl) | ((with_reducible refine lBsl1 (t := 38) (n := 1) (v1 := .agg H.toArray) rfl rfl ?_ HBs.out ?_); rfl) | (at_builtin; refine app T_held rfl _ _ rfl g4 (.slice (some ⟨g4, 0, none⟩) 0 0) 0 [] rfl own6 (way.heap.size + 1) 0 1 1 H rfl HHl.out HNw.out HHo.out (by omega) (by omega) (Nat.le_trans (own6.lt g4 rfl).1 (Nat.le_of_lt (own6.lt g4 rfl).2)) ?_; intro vc wc hownc hgc hnc))
  obtain ⟨g6, cap6, rfl, hown⟩ := OwnS.grow hownc hnc (by simp)
  obtain ⟨hsrc, qewc, qbwc, qxwc, qowc, HBwc⟩ := HX6.out _ hgc
  have HBwc := Lib.hid HBwc
  clear own6 hgc hnc hownc HX6 qbway qeway qxway qoway hown5 hbway b3way l3way x0way x1way x2way lxway
  have hown0 := hown
  have b3 := qbwc.cell 0
  have l3 := qbwc.lt
  have o3 := qowc.cell 0
  have of := qowc.frozen 0
  have lo := qowc.lt
  have hca := (own_cap hown).1
  go_wp2_with (at_builtin; refine appNil T_held rfl _ _ rfl _ (0 + 1) cap6 rfl rfl hca ?_)
  refine bodyPost_ret (v := .agg #[.slice (some ⟨g6, 0, none⟩) (0 + 1) cap6]) (by simp [results, Tryz.results14, go_sem, o3]) rfl ?_
  have hownf := ownsRow_far hown (p := ⟨w.heap.size + 1 + 1 + 1, 0, none⟩) (fun e => (qowc.norow hown (by decide)) e.symm) (.slice (some ⟨g6, 0, none⟩) (0 + 1) cap6)
  have hsf := hsrc.far qowc (by decide) 0 (.slice (some ⟨g6, 0, none⟩) (0 + 1) cap6)
  have hBf := HBwc.out.setCell (p := ⟨w.heap.size + 1 + 1 + 1, 0, none⟩) (show w.heap.size ≤ w.heap.size + 1 + 1 + 1 by omega) (.slice (some ⟨g6, 0, none⟩) (0 + 1) cap6)
  have he := ent_of (m := m + 1) HE.out (HI.out.kept hBf) (HHy.out.kept hBf) HK.out.1 HK.out.2 hsf (show [(x1, x2, x3)].length ≤ m + 1 by simp) hnm
  rw [← HH.out] at he
  obtain ⟨hs', ns', h1, h2, h3⟩ := (ShE.nil w m).ins (j := 0) (d := 0) hBf (by simp) he (.inl rfl) rfl (by simpa using hownf)
  exact ⟨_, hs', ns', rfl, h1, h2, h3, hBf⟩
theorem Add_any (m : Nat) (v : Value) (hs : List (List Value)) (ns : List Lb) (nm : Lb) (va hy : Value) (k : List (Bool × List Nat)) (x1 x2 x3 : Int) (w : World) (hS : ShE w m v hs ns)
  (hI : RdT w va k) (hH : RdH w hy nm.2) (hk : k.length ≤ 1) (hks : ∀ x ∈ k, x.2.length ≤ 1000) (hnm : nm.1.length ≤ 1000) (hm : m ≤ 2000000) (hl : hs.length ≤ 2000000) :
  Calls Tryz.prog 14 #[.agg #[v], .agg (entC nm.1 va hy).toArray, sr (x1, x2, x3)] w (RetShelf w m ns nm) := by
 rcases hS.2.2 with ⟨rfl, rfl⟩ | ⟨g, cap, cur, rfl, _⟩
 ·obtain rfl : ns = [] := List.length_eq_zero_iff.1 (hS.1.symm)
  exact Add_none m nm va hy k x1 x2 x3 w hI hH hk hks hnm
 ·exact Add_some g cap m hs.length hs ns nm va hy k x1 x2 x3 w hS rfl hI hH hk hks hnm hm hl
end Go.Proofs.YtfmjapfncjmcoaaGreatDoor.G
namespace Go.Proofs.YtfmjapfncjmcoaaGreatDoor
open Go.RowKit
def zE : List Value := entC [] (.slice none 0 0) (.slice none 0 0)
theorem run_allocEnt (w : World) : (Instr.alloc 87 true (.tuple #[])).run Tryz.prog w = .ok (.pointer (some ⟨w.heap.size, 0, none⟩)) (w.alloc (.cells zE.toArray 87)) := by kernel_rfl
theorem sAlloc {ops : Array Oper} {o : Oper} {a : Act} {W W' : World} {K : Act → World → Prop} {Q : Exit → Act → World → Prop} {E : Prop} (hgd : o.guard = none) {t : TypeId} (ho : o.op = .alloc t) {r : Value}
  (hr : (Instr.alloc t true (.tuple #[])).run Tryz.prog W = .ok r W') (h : K (a.put o.dst r) W') : if Region.wanted o (yielded ops a.tmps) = true then Oper.wp Tryz.prog o a W K Q else E := by
 have hw : Region.wanted o (yielded ops a.tmps) = true := by simp [Region.wanted, hgd]
 rw [if_pos hw]
 unfold Oper.wp execOp
 simp only [ho, Sem.run_bind, Sem.run_pure]
 rw [hr]
 exact h
theorem sStoreW {ops : Array Oper} {o : Oper} {a : Act} {W : World} {K : Act → World → Prop} {Q : Exit → Act → World → Prop} {E : Prop} {T : TypeId} {k : Nat} (hT : AggT T k)
  (hgd : o.guard = none) (x y : Operand) (ho : o.op = .store T x y) (hd : o.dst = none) (b : Nat) (hx : a.eval x = .pointer (some ⟨b, 0, none⟩)) (cs : Array Value) (hy : a.eval y = .agg cs) (hk : cs.size = k)
  (cur : Array Value) (hb : Bk W b T cur) (hcur : cur.size = k) (h1 : ∀ u ∈ cs.toList, u.oneCell' = true)
  (h : K a (W.setRow b cs)) : if Region.wanted o (yielded ops a.tmps) = true then Oper.wp Tryz.prog o a W K Q else E := by
 have hw : Region.wanted o (yielded ops a.tmps) = true := by simp [Region.wanted, hgd]
 rw [if_pos hw]
 have hs := run_storeCells_at (P := Tryz.prog) b 0 T cs.toList 0 cur W hb (by simp; omega) h1
 have he : (List.take (0 + 0) cur.toList ++ cs.toList ++ List.drop (0 + 0 + cs.toList.length) cur.toList).toArray = cs := by
  simp [List.drop_eq_nil_of_le, hcur, hk]
 rw [he] at hs
 unfold Oper.wp execOp
 simp only [ho, hx, hy, Instr.storeAt, Instr.sureAddr, storeVar, Value.cells, Sem.run_bind, Sem.run_pure, Result.andThen_ok, hT.2, hs, hk, ne_eq, not_true_eq_false, if_false]
 show K (a.put o.dst _) _
 rw [hd]
 exact h
theorem run_field106 (A : Option Addr) (n c : Nat) (w : World) : (Instr.field 98 (.agg #[.slice A n c, .int .i64 0]) 0).run Tryz.prog w = .ok (.slice A n c) w := by kernel_rfl
theorem hasB_nil (i n : Nat) : hasB [] i n = false := rfl
theorem RdU.row {w : World} {t : TypeId} {n : Nat} {v : Value} {xs : List Value} {g : Nat} {e : TypeId} {cs : Array Value} (h : RdU w t v n xs) (q : Bk w g e cs) (hne : e ≠ t) (ds : Array Value) : RdU (w.setRow g ds) t v n xs := by
 obtain ⟨hl, A, c, hv, hnc, hA⟩ := h
 refine ⟨hl, A, c, hv, hnc, fun hn => ?_⟩
 obtain ⟨b, o, cur, ea, hh, hc⟩ := hA hn
 have q' : Bk w b t cur := hh
 exact ⟨b, o, cur, ea, setRow_far q' (Bk.ne q' q (Ne.symm hne)) ds, hc⟩
theorem sk_row {w W : World} {g : Nat} (h : (∀ b o, b < w.heap.size → W.cell? ⟨b, o, none⟩ = w.cell? ⟨b, o, none⟩) ∧ Below w.heap.size w W) (hg : w.heap.size ≤ g) (ds : Array Value) :
  (∀ b o, b < w.heap.size → (W.setRow g ds).cell? ⟨b, o, none⟩ = w.cell? ⟨b, o, none⟩) ∧ Below w.heap.size w (W.setRow g ds) := by
 have h2 := below_setRow h.2 hg ds
 exact ⟨fun b o hlt => h2.cell (p := ⟨b, o, none⟩) hlt, h2⟩
theorem rdU_own {W : World} {base n : Nat} {e : TypeId} {v : Value} {xs : List Value} (h : W.ownsRow base e 1 v n xs) : RdU W e v n xs := by
 refine ⟨by have := h.1; omega, ?_⟩
 rcases h.2 with ⟨rfl, rfl⟩ | ⟨g, cap, cur, rfl, _, hh, h1, _, _, h4⟩
 ·exact ⟨none, 0, rfl, Nat.le_refl _, fun h => by omega⟩
 ·refine ⟨_, cap, rfl, h1, fun _ => ⟨g, 0, cur, rfl, hh, fun j u hu => ?_⟩⟩
  rw [← h4] at hu
  have hj : j < n * 1 := by
   have := (List.getElem?_eq_some_iff.1 hu).1
   simp at this; omega
  rw [List.getElem?_take_of_lt hj] at hu
  rw [Nat.zero_add]
  simpa using hu
theorem lBuild1 {ops : Array Oper} {o : Oper} {a : Act} {W : World} {rest : List Oper} {Q : Exit → Act → World → Prop} (hgd : o.guard = none) {t : TypeId} {i1 : Nat} {y1 : Operand} (ho : o.op = .build t #[(i1, y1)]) {v1 : Value} (h1 : a.eval y1 = v1) {r : Value}
  (hr : (Instr.build t #[(i1, v1)]).run Tryz.prog W = .ok r W) (h : wpList Tryz.prog ops Q rest (a.put o.dst r) W) : wpList Tryz.prog ops Q (o :: rest) a W :=
 lBuild hgd ho (by simp [h1]) hr h
end Go.Proofs.YtfmjapfncjmcoaaGreatDoor
