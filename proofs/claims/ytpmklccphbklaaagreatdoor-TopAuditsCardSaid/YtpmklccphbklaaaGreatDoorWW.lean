/- TopAudits: the program's package merge: entries of different names are. -/
import Derived.Test.YtpmklccphbklaaaGreatDoorWV
namespace Go.Proofs.YtpmklccphbklaaaGreatDoor
open Go.RowKit Go.Shelf Go.Proofs.Tryz
set_option maxRecDepth 100000
set_option maxHeartbeats 1000000
def k31 (x : Nat → Value) : List Value := [x 0, x 1, x 2, x 3, x 4, x 5, x 6, x 7, x 8, x 9, x 10, x 11, x 12, x 13, x 14, x 15, x 16, x 17, x 18, x 19, x 20, x 21, x 22, x 23, x 24, x 25, x 26, x 27, x 28, x 29, x 30]
theorem k31_of {C : List Value} (h : C.length = 31) : C = k31 fun i => C.getD i undef := by
 apply List.ext_getElem?
 intro i
 rcases Nat.lt_or_ge i 31 with hi | hi
 ·have : (k31 fun i => C.getD i undef)[i]? = some (C.getD i undef) := by
   rcases i with _ | _ | _ | _ | _ | _ | _ | _ | _ | _ | _ | _ | _ | _ | _ | _ | _ | _ | _ | _ | _ | _ | _ | _ | _ | _ | _ | _ | _ | _ | _ | i
   all_goals first | rfl | omega
  rw [this, List.getD_eq_getElem?_getD, List.getElem?_eq_getElem (by omega)]
  rfl
 ·rw [List.getElem?_eq_none (by omega), List.getElem?_eq_none (by simp [k31]; omega)]
theorem run_bHeld31 (x : Nat → Value) (A : Option Addr) (n c : Nat) (w : World) : (Instr.build 107 #[(0, (.agg (k31 x).toArray : Value)), (1, (.slice A n c : Value))]).run prog w = .ok (.agg (k31 x ++ [(.slice A n c : Value)]).toArray) w := by kernel_rfl
theorem run_bslHeld31 (x : Nat → Value) (v : Value) (w : World) : (Instr.buildSlice 25 1 #[(0, .agg (k31 x ++ [v]).toArray)]).run prog w = .ok (.slice (some ⟨w.heap.size, 0, none⟩) 1 1) (w.alloc (.cells (k31 x ++ [v]).toArray 107)) := by kernel_rfl
theorem run_bHeldC {C : List Value} (h : C.length = 31) (A : Option Addr) (n c : Nat) (w : World) : (Instr.build 107 #[(0, (.agg C.toArray : Value)), (1, (.slice A n c : Value))]).run prog w = .ok (.agg (C ++ [(.slice A n c : Value)]).toArray) w := by
 rw [k31_of h]; exact run_bHeld31 _ _ _ _ _
theorem run_bslHeldC {C : List Value} (h : C.length = 31) (v : Value) (w : World) : (Instr.buildSlice 25 1 #[(0, .agg (C ++ [v]).toArray)]).run prog w = .ok (.slice (some ⟨w.heap.size, 0, none⟩) 1 1) (w.alloc (.cells (C ++ [v]).toArray 107)) := by
 rw [k31_of h]; exact run_bslHeld31 _ _ _
theorem cmpB_zero : ∀ (a b : List UInt8), Lib.compareBytes a b = 0 → a = b
 | [], [], _ => rfl
 | [], _ :: _, h => by simp [Lib.compareBytes] at h
 | _ :: _, [], h => by simp [Lib.compareBytes] at h
 | x :: a, y :: b, h => by
  unfold Lib.compareBytes at h
  split at h
  ·cases h
  ·split at h
   ·cases h
   ·rename_i h1 h2
    rw [UInt8.lt_iff_toNat_lt] at h1 h2
    rw [UInt8.toNat_inj.1 (show x.toNat = y.toNat by omega), cmpB_zero a b h]
theorem cmpB_ne {x y : List UInt8} (h : x ≠ y) : Lib.compareBytes x y ≠ 0 := fun h0 => h (cmpB_zero x y h0)
theorem Compare_ne (E F : List Value) (x y : List UInt8) (w : World) (hE : E.length = 31) (hF : F.length = 31) (h1 : E[0]? = some (st x)) (h2 : F[0]? = some (st y)) (hne : x ≠ y) :
  Calls prog 141 #[.agg E.toArray, .agg F.toArray] w fun e w' => e = .returned (.int .i64 (Lib.compareBytes x y)) ∧ Below w.heap.size w w' := by
 have HS := Hi (fun W => Tryz.strings_Compare ⟨x.toArray⟩ ⟨y.toArray⟩ W)
 have hB0 : Below w.heap.size w (((w.alloc (.cells E.toArray 85)).alloc (.cells F.toArray 85)).alloc (.cells #[.int .i64 0] 3)) := (((Below.refl _ _).alloc (Nat.le_refl _) _).alloc (by simp) _).alloc (by simp; omega) _
 have q1 := ((Bk.new w 85 E.toArray).alloc (.cells F.toArray 85)).alloc (.cells #[.int .i64 0] 3)
 have q2 := (Bk.new (w.alloc (.cells E.toArray 85)) 85 F.toArray).alloc (.cells #[.int .i64 0] 3)
 have q3 := Bk.new ((w.alloc (.cells E.toArray 85)).alloc (.cells F.toArray 85)) 3 #[.int .i64 0]
 simp only [World.size_alloc] at q2 q3
 have hc : (Lib.compareBytes x y == 0) = false := by simpa using cmpB_ne hne
 go_enter func141, ntmps141
 go_wp2_with fail
 generalize ((w.alloc _).alloc _).alloc _ = W at *
 have c1 : W.cell? ⟨w.heap.size, 0, none⟩ = some (st x) := by rw [q1.cell]; simpa using h1
 have c2 : W.cell? ⟨w.heap.size + 1, 0, none⟩ = some (st y) := by rw [q2.cell]; simpa using h2
 have l1 := q1.lt
 have l2 := q2.lt
 have o0 := q3.cell 0
 have of := q3.frozen 0
 have l3 := q3.lt
 have hE0 : E[0]'(by omega) = st x := by
  rw [List.getElem?_eq_getElem (by omega)] at h1
  exact Option.some.inj h1
 have hF0 : F[0]'(by omega) = st y := by
  rw [List.getElem?_eq_getElem (by omega)] at h2
  exact Option.some.inj h2
 clear q1 q2
 go_wp2_with fail
 simp only [hE0, hF0]
 refine (HS.out _).mono ?_
 rintro e w1 ⟨rfl, rfl⟩
 dsimp only
 generalize hcc : Lib.compareBytes x y = c at *
 have x0 := (q3.put 0 (.int .i64 c)).cell 0
 go_wp2_with fail
 exact bodyPost_ret (v := .int .i64 c) (by simp [results, results141, go_sem, x0]) rfl ⟨by rw [hcc], hB0.setCell (by simp; omega) _⟩
theorem left_cells {W : World} {b : Nat} {t : TypeId} {C D : List Value} (q : Bk W b t (C ++ D).toArray) : ∀ j v, C[j]? = some v → W.cell? ⟨b, 0 + j, none⟩ = some v := fun j v h => by
 rw [q.cell]
 simp only [Nat.zero_add, List.getElem?_toArray]
 rw [List.getElem?_append_left (List.getElem?_eq_some_iff.1 h).1, h]
theorem held_ne (C D : List Value) (u v : Value) (x y : List UInt8) (w : World) (hC : C.length = 31) (hD : D.length = 31) (h1 : C[0]? = some (st x)) (h2 : D[0]? = some (st y)) (hne : x ≠ y) :
  Calls prog 81 #[.agg (C ++ [u]).toArray, .agg (D ++ [v]).toArray] w fun e w' => e = .returned (.int .i64 (Lib.compareBytes x y)) ∧ Below w.heap.size w w' := by
 have HS := Hi (fun W => Compare_ne C D x y W hC hD h1 h2 hne)
 have hB0 : Below w.heap.size w ((w.alloc (.cells (C ++ [u]).toArray 107)).alloc (.cells (D ++ [v]).toArray 107)) := ((Below.refl _ _).alloc (Nat.le_refl _) _).alloc (by simp) _
 have q1 := (Bk.new w 107 (C ++ [u]).toArray).alloc (.cells (D ++ [v]).toArray 107)
 have q2 := Bk.new (w.alloc (.cells (C ++ [u]).toArray 107)) 107 (D ++ [v]).toArray
 simp only [World.size_alloc] at q2
 have HC := Hi (left_cells q1)
 have HD := Hi (left_cells q2)
 have l1 := q1.lt
 have l2 := q2.lt
 clear h1 h2 hne q1 q2
 generalize hE : C ++ [u] = E at *
 generalize hF : D ++ [v] = F at *
 go_enter func81, ntmps81
 go_wp2_with (first
  | (refine loadW A_entry rfl _ rfl w.heap.size 0 rfl C hC HC.out ?_)
  | (refine loadW A_entry rfl _ rfl (w.heap.size + 1) 0 rfl D hD HD.out ?_))
 refine (HS.out _).mono ?_
 rintro e w1 ⟨rfl, hB1⟩
 go_wp2_with fail
 go_ret
 exact ⟨rfl, hB0.trans (hB1.mono hB0.size)⟩
theorem plE_more {T : List En} {t x : En} {j : Nat} (hj : j ≤ plE T t) (hx : T[j]? = some x) (h : ltE x.1 t.1 = true) : j + 1 ≤ plE T t := by
 rcases Nat.lt_or_ge j (plE T t) with hlt | hge
 ·omega
 ·obtain rfl : j = plE T t := by omega
  rw [plE_at hx] at h
  cases h
theorem plE_stop {T : List En} {t x : En} {j : Nat} (hj : j ≤ plE T t) (hx : T[j]? = some x) (h : ltE x.1 t.1 = false) : j = plE T t := by
 rcases Nat.lt_or_ge j (plE T t) with hlt | hge
 ·rw [plE_lt hlt hx] at h
  cases h
 ·omega
theorem run_slice1 (g off m c : Nat) (hm : 1 ≤ m) (_ : m ≤ c) (w : World) : (Instr.slice 25 (.slice (some ⟨g, off, none⟩) m c) (some (.int .i64 1)) none none).run prog w = .ok (.slice (some ⟨g, if c = 1 then off else off + 32, none⟩) (m - 1) (c - 1)) w := by
 have hu := run_underlying (P := prog) T_held.ht
 have hs := A_held.2
 unfold Instr.slice
 simp only [Sem.run_bind, hu, Result.andThen_ok]
 simp [Instr.sliceBounds, Instr.sliceBound, asIntOf, hs, show (1 : Int) ≤ (m : Int) by omega, Addr.add]
 by_cases h : c = 1 <;> simp [h]
theorem ySlice1 {a : Act} {o : Oper} {x : Operand} (ho : o.op = .slice 25 x (some (.const (.int .i64 1))) none none) {g off m c : Nat} (hx : a.eval x = .slice (some ⟨g, off, none⟩) m c) (hm : 1 ≤ m) (hc : m ≤ c) (w : World) :
  (execOp a.eval o).run prog w = .ok (.value (.slice (some ⟨g, if c = 1 then off else off + 32, none⟩) (m - 1) (c - 1))) w := by
 have h := run_slice1 g off m c hm hc w
 have hk : a.eval (.const (.int .i64 1)) = .int .i64 1 := rfl
 unfold execOp
 rw [ho]
 simp only [hx, hk, Option.map_some, Option.map_none, Sem.run_bind]
 rw [run_sliceAt_slice (h := show Tryz.prog.underlying 25 = some (.slice (Tryz.prog.elem 25)) by kernel_rfl), h]
 rfl
set_option maxRecDepth 100000
set_option maxHeartbeats 16000000
theorem union_some (g cap n : Nat) (hs : List (List Value)) (T : List En) (C : List Value) (As : Option Addr) (ns cs : Nat) (t : En) (gb : Nat) (w : World) (hS : ShA w (.slice (some ⟨g, 0, none⟩) n cap) hs T) (hn : hs.length = n) (hE : EnM w C t) (qb : Bk w gb 107 (C ++ [(.slice As ns cs : Value)]).toArray)
  (hne : ∀ x ∈ T, x.1 ≠ t.1) (hl : n ≤ 10000) :
  Calls prog 80 #[.slice (some ⟨g, 0, none⟩) n cap, .slice (some ⟨gb, 0, none⟩) 1 1, .func (.func 81) #[] #[], .func (.func 82) #[] #[]] w fun e w' => ∃ v' hs', e = .returned v' ∧ ShA w' v' hs' (insE T t) ∧ Below w.heap.size w w' := by
 obtain ⟨hgl, hcl, hcm, hf⟩ : g < w.heap.size ∧ n ≤ cap ∧ cap ≤ maxLen ∧ ∀ j u, hs.flatten[j]? = some u → w.cell? ⟨g, j, none⟩ = some u := by
  rcases hS.2.2 with ⟨h0, _⟩ | ⟨g', cap', cur, hv, h1, h2, h3, h4⟩
  ·cases h0
  ·injection hv with e1 e2 e3
   injection e1 with e1
   injection e1 with e1
   subst e1 e3
   exact ⟨h1.lt, by omega, h3, fun j u hu => by rw [h1.cell]; exact h4 j u hu⟩
 unfold maxLen at hcm
 have HS := Lib.hid hS
 have HnL := Lib.hid hn
 have HT : T.length = n := by rw [← hS.1, hn]
 have Hf := Lib.hid hf
 have HLen := Lib.hid hS.len
 have HOne := Lib.hid hS.one
 have HE := Lib.hid hE
 have HQb := Lib.hid qb
 have hgb := qb.lt
 have HNe := Lib.hid hne
 obtain ⟨H, hH⟩ : ∃ H, H = C ++ [(.slice As ns cs : Value)] := ⟨_, rfl⟩
 have HHe : Hid (∀ W, Below w.heap.size w W → HeM W H t) := Hi (fun W hW => ⟨C, As, ns, cs, hH, hE.kept hW⟩)
 have HHl := Hi (show H.length = 1 * 32 by rw [hH]; simp [hE.len])
 have HHo := Hi (HHe.out w (Below.refl _ _)).one
 have HHc := Hi (bk_list (show Bk w gb 107 H.toArray by rw [hH]; exact qb))
 have HCm := Hi (fun (h : List Value) (x : En) (e : HeM w h x) (hx : x.1 ≠ t.1) W => show Calls prog 81 #[.agg h.toArray, .agg H.toArray] W fun e w' => e = .returned (.int .i64 (Lib.compareBytes x.1 t.1)) ∧ Below W.heap.size W w' by
  obtain ⟨C', A', n', c', rfl, e2⟩ := e.ex
  rw [hH]
  exact held_ne C' C _ _ x.1 t.1 W e2.len hE.len e2.name hE.name hx)
 have HBs := Hi (fun W => show (Instr.buildSlice 25 1 #[(0, .agg H.toArray)]).run prog W = .ok (.slice (some ⟨W.heap.size, 0, none⟩) 1 1) (W.alloc (.cells H.toArray 107)) by rw [hH]; exact run_bslHeldC hE.len _ W)
 have HBx := Hi (fun (h : List Value) (x : En) (e : HeM w h x) W => show (Instr.buildSlice 25 1 #[(0, .agg h.toArray)]).run prog W = .ok (.slice (some ⟨W.heap.size, 0, none⟩) 1 1) (W.alloc (.cells h.toArray 107)) by
  obtain ⟨C', A', n', c', rfl, e2⟩ := e.ex
  exact run_bslHeldC e2.len _ W)
 clear hS hn hf hE qb hne hH
 go_enter func80, ntmps80
 go_wp2_with fail
 go_loopw [0, 1, 9] (fun a b o wr => ∃ j oa ob : Nat, j ≤ n ∧ j ≤ plE T t ∧ a = .slice (some ⟨g, oa, none⟩) (n - j) (cap - j) ∧ (j < n → oa = j * 32) ∧ Below w.heap.size w wr ∧ ((b = .slice (some ⟨gb, 0, none⟩) 1 1 ∧ wr.ownsRow w.heap.size 107 32 o j (hs.take j).flatten) ∨ (b = .slice (some ⟨gb, ob, none⟩) 0 0 ∧ j = plE T t ∧ wr.ownsRow w.heap.size 107 32 o (j + 1) ((hs.take j).flatten ++ H)))) (fun a b _ _ => lenOf a + lenOf b)
 case atStart => exact ⟨0, 0, 0, by omega, by omega, rfl, fun _ => rfl, Below.refl _ _, .inl ⟨rfl, by simp, .inl ⟨rfl, rfl⟩⟩⟩
 case round =>
  obtain ⟨j, oa, ob, hj, hjp, rfl, hoa, hB, hab⟩ := hrel
  have HB := Lib.hid hB
  have hsz := hB.size
  clear hB
  have hgwr : g < wr.heap.size := Nat.lt_of_lt_of_le hgl hsz
  have hgbwr : gb < wr.heap.size := Nat.lt_of_lt_of_le hgb hsz
  have Hfwr := Hi (fun o => HB.out.cell (p := ⟨g, o, none⟩) hgl)
  have Hbwr := Hi (fun o => HB.out.cell (p := ⟨gb, o, none⟩) hgb)
  have HTl := Hi (show (hs.take j).flatten.length = j * 32 by rw [flat_len _ (fun a ha => HLen.out a (List.mem_of_mem_take ha)), List.length_take, HnL.out, Nat.min_eq_left hj])
  rcases hab with ⟨rfl, hown⟩ | ⟨rfl, hjeq, hown⟩
  all_goals obtain ⟨Ao, no, co, rfl⟩ := own_slice hown
  ·by_cases hlt : j < n
   ·obtain rfl := hoa hlt
    have hd1 : decide ((0 : Int) < ((n - j : Nat) : Int)) = true := by simp; omega
    have hd1' : decide (((n - j : Nat) : Int) > 0) = true := by simp; omega
    have hx : hs[j]? = some (hs[j]'(by rw [HnL.out]; exact hlt)) := List.getElem?_eq_getElem _
    have hy : T[j]? = some (T[j]'(by omega)) := List.getElem?_eq_getElem _
    have HEn := Hi (HS.out.2.1 j _ _ hx hy)
    have HTx := Hi (And.intro hy (HNe.out _ (List.mem_of_getElem? hy)))
    have HCx := Hi (sh_cells HLen.out hx Hf.out (fun _ => rfl))
    have HT1 := Hi (show (hs.take (j + 1)).flatten = (hs.take j).flatten ++ hs[j]'(by rw [HnL.out]; exact hlt) by rw [List.take_add_one, hx, List.flatten_append, Option.toList_some, List.flatten_cons, List.flatten_nil, List.append_nil])
    generalize hs[j]'(by rw [HnL.out]; exact hlt) = h at *
    generalize T[j]'(by omega) = x at *
    clear hx hy hoa
    have hhl := HEn.out.len
    have Hcwr := Hi (fun i u hu => (Hfwr.out _).trans (HCx.out i u hu))
    have Hdwr := Hi (fun i u hu => (Hbwr.out _).trans (HHc.out i u hu))
    have Hcmp := Hi (HCm.out h x HEn.out HTx.out.2)
    have Hown := Lib.hid hown
    clear hown
    go_wp2_with fail
    refine rgS wr (fun hN => ?_)
    refine tkH 0 rfl ?_; go_simp
    refine tkH 1 rfl ?_; go_simp
    refine tkH 2 rfl ?_; go_simp
    refine tkH 3 (v := .agg h.toArray) rfl ?_ (fun w' hSw => run_loadW A_held _ rfl g (j * 32) rfl h hhl (fun i u hu => (hSw.1 g _ hgwr).trans (Hcwr.out i u hu))); go_simp
    refine tkH 4 rfl ?_; go_simp
    refine tkH 5 rfl ?_; go_simp
    refine tkH 6 (v := .agg H.toArray) rfl ?_ (fun w' hSw => run_loadW A_held _ rfl gb 0 rfl H HHl.out (fun i u hu => (hSw.1 gb _ hgbwr).trans (Hdwr.out i u hu))); go_simp
    refine rdH 7 rfl (fun K hK => ?_)
    go_simp
    refine (Hcmp.out _).mono ?_
    rintro e wy ⟨rfl, hbb⟩
    refine hK.out _ _ (sk_step hN hbb) (fun hN => ?_)
    clear hK K hbb
    go_simp
    refine tkH 8 rfl ?_; go_simp
    refine Hn ?_
    have hBy := hN.2
    have HBy := Hi (HB.out.trans (hBy.mono hsz))
    have Hown := Hi (ownsRow_kept Hown.out hBy)
    have hszy := HBy.out.size
    have Hcy := Hi (fun i u hu => (HBy.out.cell (p := ⟨g, _, none⟩) hgl).trans (HCx.out i u hu))
    have Hdy := Hi (fun i u hu => (HBy.out.cell (p := ⟨gb, _, none⟩) hgb).trans (HHc.out i u hu))
    clear hN hBy hgwr hgbwr Hfwr Hbwr Hcwr Hdwr HB hsz
    by_cases hc : Lib.compareBytes x.1 t.1 < 0
    ·have HP := Hi (plE_more hjp HTx.out.1 (by simp [ltE, hc]))
     have hc' : decide (Lib.compareBytes x.1 t.1 < 0) = true := by simpa using hc
     generalize Lib.compareBytes x.1 t.1 = cc at *
     clear hc
     go_wp2_with fail
     refine wp_region_held_drew (S := (fun w' => (∀ b o, b < w.heap.size → w'.cell? ⟨b, o, none⟩ = wy.cell? ⟨b, o, none⟩) ∧ Below w.heap.size wy w')) (by kernel_rfl) (sb_start _ hszy) (fun hN => ?_)
     refine tkH 0 rfl ?_; go_simp
     refine tkH 1 rfl ?_; go_simp
     refine tkH 2 rfl ?_; go_simp
     refine tkH 3 (v := .agg h.toArray) rfl ?_ (fun w' hSw => run_loadW A_held _ rfl g (j * 32) rfl h hhl (fun i u hu => (hSw.1 g _ hgl).trans (Hcy.out i u hu))); go_simp
     refine tkH 6 rfl ?_; go_simp
     refine tkH 7 (v := .slice (some ⟨g, if cap - j = 1 then j * 32 else j * 32 + 32, none⟩) (n - j - 1) (cap - j - 1)) rfl ?_ (fun w' _ => ySlice1 rfl rfl (by omega) (by omega) w'); go_simp
     have Hown := Hi (ownsRow_kept Hown.out (Below.refl wy.heap.size wy).drew)
     refine rdH 4 rfl (fun K hK => ?_)
     refine sBsl1 (t := 25) (n := 1) (v1 := .agg h.toArray) rfl rfl ?_ (HBx.out h x HEn.out _) ?_
     ·rfl
     have hal := (Below.refl wy.drew.heap.size wy.drew).alloc (Nat.le_refl _) (.cells h.toArray 107)
     have Hown := Hi (ownsRow_kept Hown.out hal)
     have HNw := Hi (cells_new wy.drew h 107)
     refine hK.out _ _ (sb_step hN (Nat.le_trans hszy hN.2.size) hal) (fun hN => ?_)
     clear hK K hal
     go_simp
     refine rdH 5 rfl (fun K hK => ?_)
     refine stepApp T_held rfl _ _ rfl w.heap.size (.slice Ao no co) j (hs.take j).flatten rfl Hown.out wy.heap.size 0 1 1 h rfl (by rw [hhl]) HNw.out HEn.out.one (by omega) (by omega) (by simp; omega) ?_
     intro va wa howna hga hna
     refine hK.out _ _ (sb_grown hN (by first | omega | (simp; omega)) hga (fun k hk => (Hown.out.lt k hk).1)) (fun hN => ?_)
     clear hK K
     go_simp
     refine tkH 8 rfl ?_; go_simp
     refine tkH 9 rfl ?_; go_simp
     refine Hn ?_
     have HBa := Hi (HBy.out.trans hN.2)
     clear hN hga hna
     go_wp2_with fail
     go_roundw
     case rel => exact ⟨j + 1, _, 0, by omega, HP.out, by rw [Nat.sub_add_eq, Nat.sub_add_eq], fun hl => by rw [if_neg (by omega), Nat.add_mul, Nat.one_mul], HBa.out, .inl ⟨rfl, by rw [HT1.out]; exact howna⟩⟩
     case measure => simp [lenOf]; omega
    ·have hne0 := cmpB_ne HTx.out.2
     have hc' : decide (Lib.compareBytes x.1 t.1 < 0) = false := by simpa using hc
     have hc2 : decide (0 < Lib.compareBytes x.1 t.1) = true := by simp; omega
     have hc3 : decide (Lib.compareBytes x.1 t.1 > 0) = true := by simp; omega
     have HP := Hi (plE_stop hjp HTx.out.1 (by simp [ltE, hc]))
     generalize Lib.compareBytes x.1 t.1 = cc at *
     clear hc hne0
     go_wp2_with fail
     refine wp_region_held_drew (S := (fun w' => (∀ b o, b < w.heap.size → w'.cell? ⟨b, o, none⟩ = wy.cell? ⟨b, o, none⟩) ∧ Below w.heap.size wy w')) (by kernel_rfl) (sb_start _ hszy) (fun hN => ?_)
     refine tkH 0 rfl ?_; go_simp
     refine tkH 1 rfl ?_; go_simp
     refine tkH 2 rfl ?_; go_simp
     refine tkH 3 (v := .agg H.toArray) rfl ?_ (fun w' hSw => run_loadW A_held _ rfl gb 0 rfl H HHl.out (fun i u hu => (hSw.1 gb _ hgb).trans (Hdy.out i u hu))); go_simp
     refine tkH 6 rfl ?_; go_simp
     refine tkH 7 (v := .slice (some ⟨gb, 0, none⟩) 0 0) rfl ?_ (fun w' _ => ySlice1 (off := 0) (m := 1) (c := 1) rfl rfl (by omega) (by omega) w'); go_simp
     have Hown := Hi (ownsRow_kept Hown.out (Below.refl wy.heap.size wy).drew)
     refine rdH 4 rfl (fun K hK => ?_)
     refine sBsl1 (t := 25) (n := 1) (v1 := .agg H.toArray) rfl rfl ?_ (HBs.out _) ?_
     ·rfl
     have hal := (Below.refl wy.drew.heap.size wy.drew).alloc (Nat.le_refl _) (.cells H.toArray 107)
     have Hown := Hi (ownsRow_kept Hown.out hal)
     have HNw := Hi (cells_new wy.drew H 107)
     refine hK.out _ _ (sb_step hN (Nat.le_trans hszy hN.2.size) hal) (fun hN => ?_)
     clear hK K hal
     go_simp
     refine rdH 5 rfl (fun K hK => ?_)
     refine stepApp T_held rfl _ _ rfl w.heap.size (.slice Ao no co) j (hs.take j).flatten rfl Hown.out wy.heap.size 0 1 1 H rfl HHl.out HNw.out HHo.out (by omega) (by omega) (by simp; omega) ?_
     intro va wa howna hga hna
     refine hK.out _ _ (sb_grown hN (by first | omega | (simp; omega)) hga (fun k hk => (Hown.out.lt k hk).1)) (fun hN => ?_)
     clear hK K
     go_simp
     refine tkH 8 rfl ?_; go_simp
     refine tkH 9 rfl ?_; go_simp
     refine Hn ?_
     have HBa := Hi (HBy.out.trans hN.2)
     clear hN hga hna
     go_wp2_with fail
     go_roundw
     case rel => exact ⟨j, j * 32, 0, by omega, by omega, rfl, fun _ => rfl, HBa.out, .inr ⟨rfl, HP.out, howna⟩⟩
     case measure => simp [lenOf]
   ·obtain rfl : j = n := by omega
    have hjeq : j = plE T t := by have := plE_le T t; omega
    have hcap : j ≤ cap := hcl
    rw [Nat.sub_self]
    have HDc : Hid (∀ (i : Nat) (u : Value), (hs.drop j).flatten[i]? = some u → False) := Hi (fun i u hu => by have h9 : hs.drop j = [] := List.drop_eq_nil_of_le (by rw [HnL.out]; exact Nat.le_refl _); rw [h9] at hu; exact absurd hu (by simp))
    have Hdwr := Hi (fun i u hu => (Hbwr.out _).trans (HHc.out i u hu))
    have HTk := Hi (show (hs.take j).flatten ++ [] ++ H = (hs.take (plE T t)).flatten ++ H ++ (hs.drop (plE T t)).flatten by rw [← hjeq, List.drop_eq_nil_of_le (by rw [HnL.out]; exact Nat.le_refl _)]; simp)
    go_wp2_with (at_builtin; first
     | (refine app T_held rfl _ _ rfl w.heap.size (.slice Ao no co) j (hs.take j).flatten rfl hown g oa 0 (cap - j) [] rfl rfl (fun i u hu => by simp at hu) (by simp) (by omega) (by omega) hsz ?_; intro va wa howna hga hna; have HBa := Hi (HB.out.grown hga HB.out.size (fun k hk => (hown.lt k hk).1)); have Hda := Hi (fun i u hu => (HBa.out.cell (p := ⟨gb, _, none⟩) hgb).trans (HHc.out i u hu)))
     | (refine app T_held rfl _ _ rfl w.heap.size va (j + 0) ((hs.take j).flatten ++ []) rfl howna gb 0 1 1 H rfl HHl.out Hda.out HHo.out (by omega) (by omega) HBa.out.size ?_; intro vb wb hownb hgb' hnb; have HBb := Hi (HBa.out.grown hgb' HBa.out.size (fun k hk => (howna.lt k hk).1))))
    go_ret
    rw [HTk.out] at hownb
    rcases hownb.2 with ⟨rfl, h⟩ | ⟨g9, cap9, cur9, rfl, _⟩
    ·omega
    ·obtain ⟨hs', h1⟩ := HS.out.insE HBb.out (HHe.out _ HBb.out) (n' := j + 0 + 1) (by rw [HnL.out]) hownb
     first | exact ⟨_, hs', rfl, h1, HBb.out⟩ | exact ⟨_, rfl, ⟨hs', h1⟩, HBb.out⟩
  ·have HDl := Hi (show (hs.drop j).flatten.length = (n - j) * 32 by rw [flat_len _ (fun a ha => HLen.out a (List.mem_of_mem_drop ha)), List.length_drop, HnL.out])
   have HDo := Hi (fun u (hu : u ∈ (hs.drop j).flatten) => HOne.out u (by rw [flat_drop hs j HLen.out] at hu; exact List.mem_of_mem_drop hu))
   have HDc := Hi (fun i u (hu : (hs.drop j).flatten[i]? = some u) => show wr.cell? ⟨g, oa + i, none⟩ = some u by
    have hlt := (List.getElem?_eq_some_iff.1 hu).1
    rw [HDl.out] at hlt
    have hj' : j < n := by
     rcases Nat.lt_or_ge j n with h | h
     ·exact h
     ·rw [show n - j = 0 by omega] at hlt; omega
    rw [hoa hj', Hfwr.out]
    rw [flat_drop hs j HLen.out, List.getElem?_drop] at hu
    exact Hf.out _ _ hu)
   have HTk := Hi (show ((hs.take j).flatten ++ H) ++ (hs.drop j).flatten ++ [] = (hs.take (plE T t)).flatten ++ H ++ (hs.drop (plE T t)).flatten by rw [← hjeq, List.append_nil])
   have hHO := Lib.hid hown
   clear hoa hown hjeq
   generalize (hs.drop j).flatten = D at *
   generalize hX : (hs.take j).flatten ++ H = X at *
   by_cases hlt : j < n
   ·have hd1 : decide ((0 : Int) < ((n - j : Nat) : Int)) = true := by simp; omega
    have hd1' : decide (((n - j : Nat) : Int) > 0) = true := by simp; omega
    go_wp2_with (at_builtin; first
     | (refine app T_held rfl _ _ rfl w.heap.size (.slice Ao no co) (j + 1) X rfl hHO.out g oa (n - j) (cap - j) D rfl HDl.out HDc.out HDo.out (by omega) (by omega) hsz ?_; intro va wa howna hga hna; have HBa := Hi (HB.out.grown hga HB.out.size (fun k hk => (hHO.out.lt k hk).1)))
     | (refine app T_held rfl _ _ rfl w.heap.size va (j + 1 + (n - j)) (X ++ D) rfl howna gb ob 0 0 [] rfl rfl (fun i u hu => by simp at hu) (by simp) (by omega) (by omega) HBa.out.size ?_; intro vb wb hownb hgb' hnb; have HBb := Hi (HBa.out.grown hgb' HBa.out.size (fun k hk => (howna.lt k hk).1))))
    go_ret
    rw [HTk.out] at hownb
    rcases hownb.2 with ⟨rfl, h⟩ | ⟨g9, cap9, cur9, rfl, _⟩
    ·omega
    ·obtain ⟨hs', h1⟩ := HS.out.insE HBb.out (HHe.out _ HBb.out) (n' := j + 1 + (n - j) + 0) (by rw [HnL.out]; omega) hownb
     first | exact ⟨_, hs', rfl, h1, HBb.out⟩ | exact ⟨_, rfl, ⟨hs', h1⟩, HBb.out⟩
   ·have hd1 : decide ((0 : Int) < ((n - j : Nat) : Int)) = false := by simp; omega
    have hd1' : decide (((n - j : Nat) : Int) > 0) = false := by simp; omega
    go_wp2_with (at_builtin; first
     | (refine app T_held rfl _ _ rfl w.heap.size (.slice Ao no co) (j + 1) X rfl hHO.out g oa (n - j) (cap - j) D rfl HDl.out HDc.out HDo.out (by omega) (by omega) hsz ?_; intro va wa howna hga hna; have HBa := Hi (HB.out.grown hga HB.out.size (fun k hk => (hHO.out.lt k hk).1)))
     | (refine app T_held rfl _ _ rfl w.heap.size va (j + 1 + (n - j)) (X ++ D) rfl howna gb ob 0 0 [] rfl rfl (fun i u hu => by simp at hu) (by simp) (by omega) (by omega) HBa.out.size ?_; intro vb wb hownb hgb' hnb; have HBb := Hi (HBa.out.grown hgb' HBa.out.size (fun k hk => (howna.lt k hk).1))))
    go_ret
    rw [HTk.out] at hownb
    rcases hownb.2 with ⟨rfl, h⟩ | ⟨g9, cap9, cur9, rfl, _⟩
    ·omega
    ·obtain ⟨hs', h1⟩ := HS.out.insE HBb.out (HHe.out _ HBb.out) (n' := j + 1 + (n - j) + 0) (by rw [HnL.out]; omega) hownb
     first | exact ⟨_, hs', rfl, h1, HBb.out⟩ | exact ⟨_, rfl, ⟨hs', h1⟩, HBb.out⟩
set_option maxRecDepth 100000
set_option maxHeartbeats 4000000
theorem union_nil (C : List Value) (As : Option Addr) (ns cs : Nat) (t : En) (gb : Nat) (w : World) (hE : EnM w C t) (qb : Bk w gb 107 (C ++ [(.slice As ns cs : Value)]).toArray) :
  Calls prog 80 #[.slice none 0 0, .slice (some ⟨gb, 0, none⟩) 1 1, .func (.func 81) #[] #[], .func (.func 82) #[] #[]] w fun e w' => ∃ v' hs', e = .returned v' ∧ ShA w' v' hs' (insE [] t) ∧ Below w.heap.size w w' := by
 obtain ⟨H, hH⟩ : ∃ H, H = C ++ [(.slice As ns cs : Value)] := ⟨_, rfl⟩
 have HHe : Hid (∀ W, Below w.heap.size w W → HeM W H t) := Hi (fun W hW => ⟨C, As, ns, cs, hH, hE.kept hW⟩)
 have HHl := Hi (show H.length = 1 * 32 by rw [hH]; simp [hE.len])
 have HHo := Hi (HHe.out w (Below.refl _ _)).one
 have HHc := Hi (bk_list (show Bk w gb 107 H.toArray by rw [hH]; exact qb))
 clear hE qb hH
 have own0 : w.ownsRow w.heap.size 107 32 (.slice none 0 0) 0 [] := ⟨by simp, .inl ⟨rfl, rfl⟩⟩
 go_enter func80, ntmps80
 go_wp2_with fail
 go_loopw [0, 1, 9] (fun a b o wr => a = .slice none 0 0 ∧ b = .slice (some ⟨gb, 0, none⟩) 1 1 ∧ o = .slice none 0 0 ∧ wr = w) (fun _ _ _ _ => 0)
 case atStart => exact ⟨rfl, rfl, rfl, rfl⟩
 case round =>
  obtain ⟨rfl, rfl, rfl, rfl⟩ := hrel
  go_wp2_with (at_builtin; (refine app T_held rfl _ _ rfl wr.heap.size (.slice none 0 0) 0 [] rfl own0 gb 0 1 1 H rfl HHl.out HHc.out HHo.out (by omega) (by omega) (Nat.le_refl _) ?_; intro vb wb hownb hgb' hnb))
  go_ret
  have hBb := (Below.refl wr.heap.size wr).grown hgb' (Nat.le_refl _) (fun k hk => by cases hk)
  rcases hownb.2 with ⟨rfl, h⟩ | ⟨g9, cap9, cur, rfl, _⟩
  ·omega
  ·have h1 := (ShA.nil wr).insE hBb (HHe.out _ hBb) (n' := 0 + 1) rfl (by simpa using hownb)
   obtain ⟨hs', h1⟩ := h1
   first | exact ⟨_, hs', rfl, h1, hBb⟩ | exact ⟨_, rfl, ⟨hs', h1⟩, hBb⟩
theorem union_calls (v : Value) (hs : List (List Value)) (T : List En) (C : List Value) (As : Option Addr) (ns cs : Nat) (t : En) (gb : Nat) (w : World) (hS : ShA w v hs T) (hE : EnM w C t) (qb : Bk w gb 107 (C ++ [(.slice As ns cs : Value)]).toArray)
  (hne : ∀ x ∈ T, x.1 ≠ t.1) (hl : T.length ≤ 10000) :
  Calls prog 80 #[v, .slice (some ⟨gb, 0, none⟩) 1 1, .func (.func 81) #[] #[], .func (.func 82) #[] #[]] w fun e w' => ∃ v' hs', e = .returned v' ∧ ShA w' v' hs' (insE T t) ∧ Below w.heap.size w w' := by
 rcases hS.2.2 with ⟨rfl, rfl⟩ | ⟨g, cap, cur, rfl, _⟩
 ·have : T = [] := by have := hS.1; simpa using this.symm
  subst this
  exact union_nil C As ns cs t gb w hE qb
 ·exact union_some g cap hs.length hs T C As ns cs t gb w hS rfl hE qb hne (by rw [hS.1]; exact hl)
theorem Merge_calls (v : Value) (hs : List (List Value)) (T : List En) (C : List Value) (As : Option Addr) (ns cs : Nat) (t : En) (gb : Nat) (w : World) (hS : ShA w v hs T) (hE : EnM w C t) (qb : Bk w gb 107 (C ++ [(.slice As ns cs : Value)]).toArray)
  (hne : ∀ x ∈ T, x.1 ≠ t.1) (hl : T.length ≤ 10000) :
  Calls prog 44 #[.agg #[v], .agg #[.slice (some ⟨gb, 0, none⟩) 1 1]] w fun e w' => ∃ v' hs', e = .returned (.agg #[v']) ∧ ShA w' v' hs' (insE T t) ∧ Below w.heap.size w w' := by
 obtain ⟨A, cap0, rfl, _⟩ := hS.slice
 have hB0 : Below w.heap.size w (((w.alloc (.cells #[.slice A T.length cap0] 27)).alloc (.cells #[.slice (some ⟨gb, 0, none⟩) 1 1] 27)).alloc (.cells #[.slice none 0 0] 27)) := (((Below.refl _ _).alloc (Nat.le_refl _) _).alloc (by simp) _).alloc (by simp; omega) _
 have q1 := ((Bk.new w 27 #[.slice A T.length cap0]).alloc (.cells #[.slice (some ⟨gb, 0, none⟩) 1 1] 27)).alloc (.cells #[.slice none 0 0] 27)
 have q2 := (Bk.new (w.alloc (.cells #[.slice A T.length cap0] 27)) 27 #[.slice (some ⟨gb, 0, none⟩) 1 1]).alloc (.cells #[.slice none 0 0] 27)
 have q3 := Bk.new ((w.alloc (.cells #[.slice A T.length cap0] 27)).alloc (.cells #[.slice (some ⟨gb, 0, none⟩) 1 1] 27)) 27 #[.slice none 0 0]
 simp only [World.size_alloc] at q2 q3
 have HU := Hi (union_calls _ hs T C As ns cs t gb _ (hS.kept hB0) (hE.kept hB0) (qb.kept hB0) hne hl)
 clear hS hE qb hne
 go_enter func44, ntmps44
 go_wp2_with fail
 generalize ((w.alloc _).alloc _).alloc _ = W at *
 have c1 := q1.cell 0
 have l1 := q1.lt
 have c2 := q2.cell 0
 have l2 := q2.lt
 go_wp2_with fail
 refine HU.out.mono ?_
 rintro e w1 ⟨v', hs', rfl, hS, hB1⟩
 obtain ⟨A', cap', rfl, _⟩ := hS.slice
 have q3 := q3.kept hB1
 have hB := hB0.trans (hB1.mono hB0.size)
 clear c1 l1 c2 l2 q1 q2 hB1 hB0
 have c3 := q3.cell 0
 have f3 := q3.frozen 0
 have l3 := q3.lt
 have x3 := (q3.put 0 (.slice A' (insE T t).length cap')).cell 0
 have HS := Hi (hS.tr (trP_set q3 0 (.slice A' (insE T t).length cap')) (by decide) (by decide) (by decide))
 clear hS
 go_wp2_with fail
 exact bodyPost_ret (v := .agg #[.slice A' (insE T t).length cap']) (by simp [results, results44, go_sem, x3]) rfl ⟨_, hs', rfl, HS.out, hB.setCell (by simp; omega) _⟩
set_option maxRecDepth 100000
set_option maxHeartbeats 2000000
theorem AddE_calls (v : Value) (hs : List (List Value)) (T : List En) (C : List Value) (t : En) (x1 x2 x3 : Int) (w : World) (hS : ShA w v hs T) (hE : EnM w C t) (hne : ∀ x ∈ T, x.1 ≠ t.1) (hl : T.length ≤ 10000) :
  Calls prog 15 #[.agg #[v], .agg C.toArray, .agg #[.int .i64 x1, .int .i64 x2, .int .i64 x3]] w fun e w' => ∃ v' hs', e = .returned (.agg #[v']) ∧ ShA w' v' hs' (insE T t) ∧ Below w.heap.size w w' := by
 obtain ⟨A, cap0, rfl, _⟩ := hS.slice
 have hlen := hE.len
 have h1 := hE.one
 have hB0 : Below w.heap.size w ((((w.alloc (.cells #[.slice A T.length cap0] 27)).alloc (.cells C.toArray 85)).alloc (.cells #[.int .i64 x1, .int .i64 x2, .int .i64 x3] 90)).alloc (.cells #[.slice none 0 0] 27)) := ((((Below.refl _ _).alloc (Nat.le_refl _) _).alloc (by simp) _).alloc (by simp; omega) _).alloc (by simp; omega) _
 have q1 := (((Bk.new w 27 #[.slice A T.length cap0]).alloc (.cells C.toArray 85)).alloc (.cells #[.int .i64 x1, .int .i64 x2, .int .i64 x3] 90)).alloc (.cells #[.slice none 0 0] 27)
 have q2 := ((Bk.new (w.alloc (.cells #[.slice A T.length cap0] 27)) 85 C.toArray).alloc (.cells #[.int .i64 x1, .int .i64 x2, .int .i64 x3] 90)).alloc (.cells #[.slice none 0 0] 27)
 have q3 := (Bk.new ((w.alloc (.cells #[.slice A T.length cap0] 27)).alloc (.cells C.toArray 85)) 90 #[.int .i64 x1, .int .i64 x2, .int .i64 x3]).alloc (.cells #[.slice none 0 0] 27)
 have q4 := Bk.new (((w.alloc (.cells #[.slice A T.length cap0] 27)).alloc (.cells C.toArray 85)).alloc (.cells #[.int .i64 x1, .int .i64 x2, .int .i64 x3] 90)) 27 #[.slice none 0 0]
 simp only [World.size_alloc] at q2 q3 q4
 have HS := Hi (hS.kept hB0)
 have HE := Hi (hE.kept hB0)
 have HNe := Lib.hid hne
 clear hS hE hne
 go_enter func15, ntmps15
 go_upto_region 1 with (fail)
 generalize (((w.alloc _).alloc _).alloc _).alloc _ = W at *
 have c1 := q1.cell 0
 have l1 := q1.lt
 have l2 := q2.lt
 have HC := Hi (bk_list q2)
 obtain ⟨y0, y1, y2, _, _, _⟩ := q3.six
 have l3 := q3.lt
 have HBd := Hi (fun w' => run_bHeldC hlen (some ⟨W.heap.size, 0, none⟩) 1 1 w')
 have HBs := Hi (run_bslHeldC hlen (.slice (some ⟨W.heap.size, 0, none⟩) 1 1) (W.alloc (.cells #[.int .i64 x1, .int .i64 x2, .int .i64 x3] 90)))
 rw [World.size_alloc] at HBs
 go_wp2_with (first
  | (refine loadW A_entry rfl _ rfl (w.heap.size + 1) 0 rfl C hlen HC.out ?_)
  | ((with_reducible refine lBuild2 (t := 107) (v1 := .agg C.toArray) (v2 := .slice (some ⟨W.heap.size, 0, none⟩) 1 1) rfl rfl ?_ ?_ (HBd.out _) ?_); rfl; rfl)
  | ((with_reducible refine lBsl1 (t := 25) (n := 1) (v1 := .agg (C ++ [(.slice (some ⟨W.heap.size, 0, none⟩) 1 1 : Value)]).toArray) rfl rfl ?_ HBs.out ?_); rfl))
 have hal := ((Below.refl W.heap.size W).alloc (Nat.le_refl _) (.cells #[.int .i64 x1, .int .i64 x2, .int .i64 x3] 90)).alloc (by simp) (.cells (C ++ [(.slice (some ⟨W.heap.size, 0, none⟩) 1 1 : Value)]).toArray 107)
 have qb := Bk.new (W.alloc (.cells #[.int .i64 x1, .int .i64 x2, .int .i64 x3] 90)) 107 (C ++ [(.slice (some ⟨W.heap.size, 0, none⟩) 1 1 : Value)]).toArray
 rw [World.size_alloc] at qb
 refine (Merge_calls _ hs T C (some ⟨W.heap.size, 0, none⟩) 1 1 t (W.heap.size + 1) _ (HS.out.kept hal) (HE.out.kept hal) qb HNe.out hl).mono ?_
 rintro e w1 ⟨v', hs', rfl, hS, hB1⟩
 obtain ⟨A', cap', rfl, _⟩ := hS.slice
 have q4 := (q4.kept hal).kept hB1
 have hB := (hB0.trans (hal.mono hB0.size)).trans (hB1.mono (Nat.le_trans hB0.size hal.size))
 clear c1 l1 l2 y0 y1 y2 l3 q1 q2 q3 hB1 hal qb
 have c4 := q4.cell 0
 have f4 := q4.frozen 0
 have l4 := q4.lt
 have x4 := (q4.put 0 (.slice A' (insE T t).length cap')).cell 0
 have HS := Hi (hS.tr (trP_set q4 0 (.slice A' (insE T t).length cap')) (by decide) (by decide) (by decide))
 clear hS
 go_wp2_with fail
 refine bodyPost_ret (v := .agg #[.slice A' (insE T t).length cap']) (by simp [results, results15, go_sem, x4]) rfl ?_
 have hBf := hB.setCell (p := ⟨w.heap.size + 1 + 1 + 1, 0, none⟩) (show w.heap.size ≤ w.heap.size + 1 + 1 + 1 by omega) (.slice A' (insE T t).length cap')
 with_reducible exact ⟨_, hs', rfl, HS.out, hBf⟩
end Go.Proofs.YtpmklccphbklaaaGreatDoor
