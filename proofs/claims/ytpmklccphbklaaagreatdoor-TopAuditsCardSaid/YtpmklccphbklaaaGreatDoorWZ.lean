/- TopAudits: the empty entry; blocks behind a fence. -/
import Derived.Test.YtpmklccphbklaaaGreatDoorWW
namespace Go.Proofs.YtpmklccphbklaaaGreatDoor
open Go.RowKit Go.Shelf Go.Proofs.Tryz
abbrev zEntA : Array Value := #[.string ⟨#[]⟩, .slice none 0 0, .slice none 0 0, .bool false, .slice none 0 0, .slice none 0 0, .slice none 0 0, .int .i64 0, .bool false, .slice none 0 0, .slice none 0 0, .slice none 0 0, .int .i64 0, .int .i64 0, .int .i64 0, .int .i64 0, .slice none 0 0, .slice none 0 0, .slice none 0 0, .slice none 0 0, .bool false, .slice none 0 0, .bool false, .slice none 0 0, .slice none 0 0, .slice none 0 0, .slice none 0 0, .slice none 0 0, .slice none 0 0, .slice none 0 0, .slice none 0 0]
theorem run_bEnt0 (w : World) : (Instr.build 85 #[]).run prog w = .ok (.agg zEntA) w := by kernel_rfl
theorem Bk.kb {w w' : World} {B b : Nat} {t : TypeId} {cs : Array Value} (q : Bk w b t cs) (h : Below B w w') (hb : b < B) : Bk w' b t cs := (h.block b hb).trans q
set_option maxRecDepth 100000
set_option maxHeartbeats 8000000
def PredH (B f : Nat) (lb : Array Value) (del : List Value → Bool) (hs : List (List Value)) (w : World) : Prop :=
 ∀ h ∈ hs, ∀ W, Below B w W → Calls prog f (#[.agg h.toArray] ++ lb) W fun e w' => e = .returned (.bool (del h)) ∧ Below W.heap.size W w'
theorem IndexH_calls (B g n c f : Nat) (lb : Array Value) (del : List Value → Bool) (hs : List (List Value)) (w : World) (ef : ∀ args w, (callFunc f args).run prog w = .ok (.enter f args) w) (hl : ∀ h ∈ hs, h.length = 32) (hn : hs.length = n) (hn' : n ≤ 100000)
  (hgl : g < w.heap.size) (hc : ∀ j u, hs.flatten[j]? = some u → w.cell? ⟨g, j, none⟩ = some u) (hB : B ≤ w.heap.size) (hp : PredH B f lb del hs w) :
  Calls prog 61 #[.slice (some ⟨g, 0, none⟩) n c, .func (.func f) #[] lb] w fun e w' =>
   ((∃ k, k < n ∧ e = .returned (.int .i64 (k : Nat)) ∧ (∀ h, hs[k]? = some h → del h = true) ∧ ∀ j h, j < k → hs[j]? = some h → del h = false) ∨ (e = .returned (.int .i64 (-1)) ∧ ∀ h ∈ hs, del h = false)) ∧ Below w.heap.size w w' := by
 have HP := Lib.hid hp
 have HC := Lib.hid hc
 have HL := Lib.hid hl
 have HnL := Lib.hid hn
 clear hp hc hl hn
 go_enter func61, ntmps61
 go_wp2_with fail
 go_loopw [8] (fun i wr => ∃ k : Nat, k ≤ n ∧ i = .int .i64 k ∧ Hid (Below w.heap.size w wr ∧ ∀ j h, j < k → hs[j]? = some h → del h = false)) (fun i _ => n - (intOf i).toNat)
 case atStart => exact ⟨0, by omega, rfl, Lib.hid ⟨Below.refl _ _, fun j h hj => by omega⟩⟩
 case round =>
  obtain ⟨k, hk, rfl, HR⟩ := hrel
  by_cases hlt : k < n
  ·have hx : hs[k]? = some (hs[k]'(by rw [HnL.out]; exact hlt)) := List.getElem?_eq_getElem _
   have HX := Lib.hid hx
   generalize hs[k]'(by rw [HnL.out]; exact hlt) = h at *
   have h32 := HL.out h (List.mem_of_getElem? hx)
   have Hcw := Hi (fun (i : Nat) (u : Value) (hu : h[i]? = some u) => show wr.cell? ⟨g, k * 32 + i, none⟩ = some u from (HR.out.1.cell (p := ⟨g, k * 32 + i, none⟩) hgl).trans (HC.out _ _ ((flat_at hs k i h HL.out hx (by have := (List.getElem?_eq_some_iff.1 hu).1; omega)).trans hu)))
   have hcall := HP.out h (List.mem_of_getElem? hx) wr (HR.out.1.mono hB)
   clear hx
   cases hq : del h with
   | true =>
    rw [hq] at hcall
    have HQ := Lib.hid hq
    clear hq
    go_wp2_with (first | (refine loadW A_held rfl _ rfl g (k * 32) rfl h h32 Hcw.out ?_) | (go_at_fn f; refine hcall.mono ?_; rintro e w' ⟨rfl, hb⟩))
    go_ret
    exact ⟨.inl ⟨k, hlt, rfl, fun h' hh => by rw [HX.out, Option.some.injEq] at hh; rw [← hh]; exact HQ.out, HR.out.2⟩, HR.out.1.trans (hb.mono HR.out.1.size)⟩
   | false =>
    rw [hq] at hcall
    have HQ := Lib.hid hq
    clear hq
    go_wp2_with (first | (refine loadW A_held rfl _ rfl g (k * 32) rfl h h32 Hcw.out ?_) | (go_at_fn f; refine hcall.mono ?_; rintro e w' ⟨rfl, hb⟩))
    go_roundw
    case rel => exact ⟨k + 1, by omega, by go_num, Lib.hid ⟨HR.out.1.trans (hb.mono HR.out.1.size), fun j h' hj hh => by
      rcases Nat.lt_or_ge j k with h1 | h1
      ·exact HR.out.2 j h' h1 hh
      ·obtain rfl : j = k := by omega
       rw [HX.out, Option.some.injEq] at hh
       rw [← hh]
       exact HQ.out⟩⟩
    case measure => simp [intOf]; omega
  ·obtain rfl : k = n := by omega
   go_wp2_with fail
   go_ret
   exact ⟨.inr ⟨rfl, fun h hh => by
    obtain ⟨j, hj⟩ := List.getElem?_of_mem hh
    exact HR.out.2 j h (by rw [← HnL.out]; exact (List.getElem?_eq_some_iff.1 hj).1) hj⟩, HR.out.1⟩
theorem run_zeroHeld (w : World) : (zeroValue 107).run prog w = .ok (.agg zHeld.toArray) w := by kernel_rfl
theorem run_clearH (g off n c : Nat) (cur : Array Value) (w : World) (q : Bk w g 107 cur) (hn : 0 < n) (hc : off + n * 32 ≤ cur.size) :
  ∃ Z : List Value, Z.length = n * 32 ∧ ∀ ty, (Builtin.clear_ #[25] ty #[.slice (some ⟨g, off, none⟩) n c]).run prog w = .ok (.tuple #[]) (w.setRow g (cur.toList.take off ++ Z ++ cur.toList.drop (off + n * 32)).toArray) := by
 obtain ⟨Z, hZ⟩ : ∃ Z, Z = (Builtin.zeroCells zHeld.toArray n).toList := ⟨_, rfl⟩
 have hl : Z.length = n * 32 := by rw [hZ]; simp [Builtin.zeroCells, zHeld, entC, zc]
 have h1 : ∀ u ∈ Z, u.oneCell' = true := by
  rw [hZ]
  intro u hu
  simp only [Builtin.zeroCells, Array.toList_map, List.mem_map] at hu
  obtain ⟨i, _, rfl⟩ := hu
  have hi : i % zHeld.toArray.size < zHeld.length := by
   have : 0 < zHeld.length := by decide
   simpa using Nat.mod_lt i this
  rw [getElem!_pos zHeld.toArray _ (by simpa using hi)]
  have hall : ∀ u ∈ zHeld, u.oneCell' = true := by decide
  exact hall _ (by simp)
 refine ⟨Z, hl, fun ty => ?_⟩
 obtain ⟨zH, hzH⟩ : ∃ zH, zH = zHeld.toArray := ⟨_, rfl⟩
 have hz0 : ∀ w, (zeroValue 107).run prog w = .ok (.agg zH) w := fun w => by rw [hzH]; exact run_zeroHeld w
 rw [← hzH] at hZ
 clear hzH
 have hst := run_storeCells_at (P := prog) g off 107 Z 0 cur w q (by omega) h1
 simp only [Nat.add_zero, hl] at hst
 obtain ⟨m, rfl⟩ : ∃ m, n = m + 1 := ⟨n - 1, by omega⟩
 simp [Builtin.clear_, run_underlying T_held.ht, hz0, Value.cells, ← hZ, hst]
theorem storeRow {ops : Array Oper} {o : Oper} {a : Act} {W : World} {rest : List Oper} {Q : Exit → Act → World → Prop} {T : TypeId} {k : Nat} (hT : AggT T k)
  (hgd : o.guard = none) (x y : Operand) (ho : o.op = .store T x y) (hd : o.dst = none) (b off : Nat) (hx : a.eval x = .pointer (some ⟨b, off, none⟩)) (cs : Array Value) (hy : a.eval y = .agg cs) (hk : cs.size = k)
  (cur : Array Value) (hb : Bk W b T cur) (hcur : off + k ≤ cur.size) (h1 : ∀ u ∈ cs.toList, u.oneCell' = true)
  (h : wpList prog ops Q rest a (W.setRow b (cur.toList.take off ++ cs.toList ++ cur.toList.drop (off + k)).toArray)) : wpList prog ops Q (o :: rest) a W := by
 refine wpList_plain hgd fun _ hK => ?_
 have hs := run_storeCells_at (P := prog) b off T cs.toList 0 cur W hb (by simp; omega) h1
 simp only [Nat.add_zero, Array.length_toList, hk] at hs
 unfold Oper.wp execOp
 simp only [ho, hx, hy, Instr.storeAt, Instr.sureAddr, storeVar, Value.cells, Sem.run_bind, Sem.run_pure, Result.andThen_ok, hT.2, hs, hk, ne_eq, not_true_eq_false, if_false]
 exact hK _ _ (by rw [hd]; exact h)
theorem row_put {A M D h : List Value} (hM : 32 ≤ M.length) (_ : h.length = 32) : ((A ++ M ++ D).take A.length ++ h ++ (A ++ M ++ D).drop (A.length + 32)) = (A ++ h) ++ M.drop 32 ++ D := by
 have h1 : (A ++ M ++ D).take A.length = A := by rw [List.append_assoc, List.take_left']; rfl
 have h2 : (A ++ M ++ D).drop (A.length + 32) = M.drop 32 ++ D := by
  rw [List.append_assoc, ← List.drop_drop, List.drop_left' rfl, List.drop_append_of_le_length hM]
 rw [h1, h2, List.append_assoc, List.append_assoc, List.append_assoc]
theorem DeleteH_calls (B g n c f : Nat) (lb : Array Value) (del : List Value → Bool) (hs : List (List Value)) (R : List Value) (w : World) (ef : ∀ args w, (callFunc f args).run prog w = .ok (.enter f args) w) (hl : ∀ h ∈ hs, h.length = 32) (h1 : ∀ h ∈ hs, ∀ u ∈ h, u.oneCell' = true) (hn : hs.length = n) (hn' : n ≤ 100000) (hnc : n ≤ c) (hcm : c ≤ maxLen)
  (hg : B ≤ g) (qg : Bk w g 107 (hs.flatten ++ R).toArray) (hp : PredH B f lb del hs w) :
  Calls prog 31 #[.slice (some ⟨g, 0, none⟩) n c, .func (.func f) #[] lb] w fun e w' =>
   ∃ cur, e = .returned (.slice (some ⟨g, 0, none⟩) (hs.filter fun h => !del h).length c) ∧ Bk w' g 107 cur ∧ (∀ (j : Nat) (u : Value), (hs.filter fun h => !del h).flatten[j]? = some u → cur[j]? = some u) ∧ Below B w w' ∧ TrP (fun t => t ≠ 107) w w' := by
 have hgl := qg.lt
 have hI := Hi (IndexH_calls B g n c f lb del hs w ef hl hn hn' hgl (fun j u hu => by
  rw [qg.cell]
  simp only [List.getElem?_toArray]
  rw [List.getElem?_append_left (List.getElem?_eq_some_iff.1 hu).1, hu]) (by omega) hp)
 have HP := Lib.hid hp
 have HL := Hi (And.intro hl h1)
 have HnL := Lib.hid hn
 have HQ := Lib.hid qg
 unfold maxLen at hcm
 clear hp hl h1 hn qg
 go_enter func31, ntmps31
 go_wp2_with fail
 refine hI.out.mono ?_
 rintro e w1 ⟨⟨k0, hk0, rfl, ht, hf⟩ | ⟨rfl, hf⟩, hB1⟩
 ·have hk1 : (((k0 : Nat) : Int) == -1) = false := by rw [beq_eq_false_iff_ne]; omega
  have HT := Hi (And.intro ht hf)
  have HB1 := Hi (And.intro (hB1.mono (show B ≤ w.heap.size by omega)) ((trP_below hB1).less (Q := fun t => t ≠ 107) fun _ _ => trivial))
  have HQ1 := Hi (HQ.out.kept hB1)
  clear ht hf hB1
  have hk0' : k0 < hs.length := by rw [HnL.out]; exact hk0
  have HK0 : Hid ((hs.take (k0 + 1)).filter (fun h => !del h) = hs.take k0) := Hi (by
   have e0 : hs[k0]? = some hs[k0] := List.getElem?_eq_getElem _
   rw [List.take_add_one, e0, List.filter_append]
   have e1 : (hs.take k0).filter (fun h => !del h) = hs.take k0 := List.filter_eq_self.2 (fun h hh => by
    obtain ⟨j, hj⟩ := List.getElem?_of_mem hh
    have hlt := (List.getElem?_eq_some_iff.1 hj).1
    rw [List.length_take] at hlt
    rw [List.getElem?_take_of_lt (by omega)] at hj
    rw [HT.out.2 j h (by omega) hj]; rfl)
   rw [e1]
   simp [HT.out.1 _ e0])
  go_wp2_with fail
  go_loopw [5, 6] (fun si sj wr => ∃ (i j : Nat) (M : List Value), i < j ∧ j ≤ n ∧ si = .int .i64 i ∧ sj = .int .i64 j ∧ Hid (((hs.take j).filter fun h => !del h).length = i ∧ M.length = (j - i) * 32 ∧ Bk wr g 107 ((((hs.take j).filter fun h => !del h).flatten ++ M) ++ ((hs.drop j).flatten ++ R)).toArray ∧ Below B w wr ∧ TrP (fun t => t ≠ 107) w wr)) (fun _ sj _ => n - (intOf sj).toNat)
  case atStart =>
   refine ⟨k0, k0 + 1, hs[k0]'hk0', by omega, by omega, rfl, by go_num, Lib.hid ⟨?_, ?_, ?_, HB1.out⟩⟩
   ·rw [HK0.out, List.length_take]; omega
   ·rw [HL.out.1 _ (List.getElem_mem _)]; omega
   ·rw [HK0.out]
    have e : hs.flatten = (hs.take k0).flatten ++ hs[k0]'hk0' ++ (hs.drop (k0 + 1)).flatten := by
     have h := congrArg List.flatten (List.take_append_drop k0 hs)
     rw [List.flatten_append, List.drop_eq_getElem_cons hk0', List.flatten_cons] at h
     rw [← h, List.append_assoc]
    have := HQ1.out
    rw [e] at this
    simpa [List.append_assoc] using this
  case round =>
   obtain ⟨i, j, M, hij, hjn, rfl, rfl, HI⟩ := hrel
   by_cases hlt : j < n
   ·have hj' : j < hs.length := by rw [HnL.out]; exact hlt
    have e0 : hs[j]? = some hs[j] := List.getElem?_eq_getElem _
    have HX := Hi (And.intro e0 (And.intro (List.getElem_mem hj') (And.intro (show hs.drop j = hs[j] :: hs.drop (j + 1) from List.drop_eq_getElem_cons hj') (show hs.take (j + 1) = hs.take j ++ [hs[j]] by rw [List.take_add_one, e0]; rfl))))
    generalize hs[j] = h at *
    have h32 := HL.out.1 h HX.out.2.1
    have ho := HL.out.2 h HX.out.2.1
    have q := HI.out.2.2.1
    rw [HX.out.2.2.1, List.flatten_cons] at q
    have hAl : (((hs.take j).filter fun h => !del h).flatten).length = i * 32 := by
     rw [flat_len _ (fun a ha => HL.out.1 a (List.mem_of_mem_take (List.mem_filter.1 ha).1)), HI.out.1]
    have hMl := HI.out.2.1
    have HBr := Lib.hid HI.out.2.2.2
    have HAl := Lib.hid hAl
    generalize hA : ((hs.take j).filter fun h => !del h).flatten = A at *
    have HA := Lib.hid hA
    have HMl := Lib.hid hMl
    have hcell : ∀ x u, h[x]? = some u → wr.cell? ⟨g, j * 32 + x, none⟩ = some u := fun x u hu => by
     rw [q.cell]
     simp only [List.getElem?_toArray]
     have hx := (List.getElem?_eq_some_iff.1 hu).1
     have e : (A ++ M).length = j * 32 := by rw [List.length_append, HAl.out, HMl.out, ← Nat.add_mul]; congr 1; omega
     rw [List.getElem?_append_right (by omega), e, show j * 32 + x - j * 32 = x by omega, List.append_assoc, List.getElem?_append_left hx, hu]
    have HC := Lib.hid hcell
    have hsz : g < wr.heap.size := q.lt
    have HQr := Lib.hid q
    clear hcell q e0 hA hAl hMl
    go_upto_region 8 with (first
     | (refine loadW A_held rfl _ rfl g (j * 32) rfl h h32 HC.out ?_)
     | (refine kStore A_held rfl _ _ rfl rfl rfl h.toArray rfl (by simpa using h32) rfl (by simpa using ho) ?_; intro X qX hX))
    have HBX := Hi (And.intro (HBr.out.1.trans (hX.mono (Nat.le_trans (by omega) HBr.out.1.size))) (HBr.out.2.trans ((trP_below hX).less (Q := fun t => t ≠ 107) fun _ _ => trivial)))
    have HQX := Hi (HQr.out.kept hX)
    have HhX := Hi (bk_list qX)
    have hcall := HP.out h HX.out.2.1 X HBX.out.1
    clear hX
    cases hq : del h with
    | false =>
     rw [hq] at hcall
     have HF := Lib.hid hq
     clear hq
     go_upto_region 9 with (first | (refine loadW A_held rfl _ rfl wr.heap.size 0 rfl h h32 HhX.out ?_) | (go_at_fn f; refine hcall.mono ?_; rintro e w2 ⟨rfl, hb⟩))
     have HB2 := Hi (And.intro (HBX.out.1.trans (hb.mono (Nat.le_trans (by omega) HBX.out.1.size))) (HBX.out.2.trans ((trP_below hb).less (Q := fun t => t ≠ 107) fun _ _ => trivial)))
     have HQ2 := Hi (HQX.out.kept hb)
     have Hh2 := Hi (bk_list (qX.kept hb))
     clear hb hcall qX
     have hin : (i : Int) < (n : Int) := by omega
     go_wp2_with (first
      | (refine loadW A_held rfl _ rfl wr.heap.size 0 rfl h h32 Hh2.out ?_)
      | (refine storeRow A_held rfl _ _ rfl rfl g (i * 32) rfl h.toArray rfl (by simpa using h32) _ HQ2.out (by have h1 := HAl.out; have h2 := HMl.out; simp only [List.size_toArray, List.length_append]; omega) (by simpa using ho) ?_))
     go_roundw
     case rel =>
      refine ⟨i + 1, j + 1, M.drop 32 ++ h, by omega, by omega, by go_num, by go_num, Lib.hid ⟨?_, ?_, ?_, below_setRow HB2.out.1 hg _, HB2.out.2.trans (trP_row2 HQ2.out _)⟩⟩
      ·rw [HX.out.2.2.2, List.filter_append, List.length_append, HI.out.1]; simp [HF.out]
      ·rw [List.length_append, List.length_drop, HMl.out, h32]; omega
      ·have e : (((hs.take (j + 1)).filter fun h => !del h).flatten ++ (M.drop 32 ++ h)) ++ ((hs.drop (j + 1)).flatten ++ R) = (A ++ M ++ (h ++ (hs.drop (j + 1)).flatten ++ R)).take (i * 32) ++ h ++ (A ++ M ++ (h ++ (hs.drop (j + 1)).flatten ++ R)).drop (i * 32 + 32) := by
        rw [← HAl.out, row_put (by rw [HMl.out]; omega) h32, HX.out.2.2.2, List.filter_append, List.flatten_append, HA.out]
        simp [HF.out]
       rw [e]
       simp only [List.append_assoc]
       exact setRow_bk HQ2.out _
     case measure => simp [intOf]; omega
    | true =>
     rw [hq] at hcall
     have HF := Lib.hid hq
     clear hq
     go_wp2_with (first | (refine loadW A_held rfl _ rfl wr.heap.size 0 rfl h h32 HhX.out ?_) | (go_at_fn f; refine hcall.mono ?_; rintro e w2 ⟨rfl, hb⟩))
     have HB2 := Hi (And.intro (HBX.out.1.trans (hb.mono (Nat.le_trans (by omega) HBX.out.1.size))) (HBX.out.2.trans ((trP_below hb).less (Q := fun t => t ≠ 107) fun _ _ => trivial)))
     have HQ2 := Hi (HQX.out.kept hb)
     go_roundw
     case rel =>
      refine ⟨i, j + 1, M ++ h, by omega, by omega, rfl, by go_num, Lib.hid ⟨?_, ?_, ?_, HB2.out⟩⟩
      ·rw [HX.out.2.2.2, List.filter_append, List.length_append, HI.out.1]; simp [HF.out]
      ·rw [List.length_append, HMl.out, h32]; omega
      ·have e : (((hs.take (j + 1)).filter fun h => !del h).flatten ++ (M ++ h)) ++ ((hs.drop (j + 1)).flatten ++ R) = A ++ M ++ (h ++ (hs.drop (j + 1)).flatten ++ R) := by
        rw [HX.out.2.2.2, List.filter_append, List.flatten_append, HA.out]
        simp [HF.out]
       rw [e]
       exact HQ2.out
     case measure => simp [intOf]; omega
   ·obtain rfl : j = n := by omega
    have hMl := HI.out.2.1
    have q := HI.out.2.2.1
    have hAl : (((hs.take j).filter fun h => !del h).flatten).length = i * 32 := by
     rw [flat_len _ (fun a ha => HL.out.1 a (List.mem_of_mem_take (List.mem_filter.1 ha).1)), HI.out.1]
    rw [List.drop_eq_nil_of_le (by rw [HnL.out]; exact Nat.le_refl _), List.take_of_length_le (by rw [HnL.out]; exact Nat.le_refl _)] at q
    rw [List.take_of_length_le (by rw [HnL.out]; exact Nat.le_refl _)] at hAl
    have hFl := HI.out.1
    rw [List.take_of_length_le (by rw [HnL.out]; exact Nat.le_refl _)] at hFl
    obtain ⟨Z, hZ, hcl⟩ := run_clearH g (i * 32) (j - i) (c - i) _ wr q (by omega) (by simp only [List.size_toArray, List.length_append, hAl, hMl]; omega)
    have HQ9 := Lib.hid q
    have HA9 := Hi (And.intro hAl hFl)
    have hd3 : (i : Int) ≤ (c : Int) := by omega
    have hd4 : (i : Int) ≤ (j : Int) := by omega
    have hd5 : (0 : Int) ≤ (i : Int) := by omega
    have hne : ¬ c = i := by omega
    have hc0 : ¬ c = 0 := by omega
    clear q hAl hMl hFl hZ
    go_wp2
    go_ret
    refine ⟨by show Ending.returned (.slice (some ⟨g, 0, none⟩) i c) = _; rw [HA9.out.2], _, setRow_bk HQ9.out _, fun x u hu => ?_, below_setRow HI.out.2.2.2.1 hg _, HI.out.2.2.2.2.trans (trP_row2 HQ9.out _)⟩
    rw [List.getElem?_toArray, List.take_left' HA9.out.1, List.getElem?_append_left (List.getElem?_eq_some_iff.1 hu).1]
    exact hu
 ·have HB1 := Hi (And.intro (hB1.mono (show B ≤ w.heap.size by omega)) ((trP_below hB1).less (Q := fun t => t ≠ 107) fun _ _ => trivial))
  have HQ1 := Hi (HQ.out.kept hB1)
  have HF : Hid ((hs.filter fun h => !del h) = hs) := Hi (List.filter_eq_self.2 fun h hh => by rw [hf h hh]; rfl)
  clear hf hB1
  go_wp2_with fail
  go_ret
  refine ⟨_, by rw [HF.out, HnL.out]; rfl, HQ1.out, fun j u hu => ?_, HB1.out⟩
  rw [HF.out] at hu
  simp only [List.getElem?_toArray]
  rw [List.getElem?_append_left (List.getElem?_eq_some_iff.1 hu).1, hu]
set_option maxRecDepth 100000
set_option maxHeartbeats 2000000
theorem eql_nil (W : World) : (binOp .eql 25 (.slice none 0 0) (.slice none 0 0)).run prog W = .ok (.bool true) W := by kernel_rfl
theorem eql_some (a : Addr) (n c : Nat) (W : World) : (binOp .eql 25 (.slice (some a) n c) (.slice none 0 0)).run prog W = .ok (.bool false) W := by kernel_rfl
theorem CloneH_calls (v : Value) (hs : List (List Value)) (T : List En) (w : World) (hS : ShA w v hs T) (hl : T.length ≤ 10000) :
  Calls prog 32 #[v] w fun e w' => ((v = .slice none 0 0 ∧ e = .returned (.slice none 0 0)) ∨ ∃ g cap R, e = .returned (.slice (some ⟨g, 0, none⟩) T.length cap) ∧ w.heap.size ≤ g ∧ T.length ≤ cap ∧ cap ≤ maxLen ∧ Bk w' g 107 (hs.flatten ++ R).toArray) ∧ Below w.heap.size w w' := by
 rcases hS.2.2 with ⟨rfl, rfl⟩ | ⟨g, cap, cur, rfl, qg, hc, hm, hf⟩
 ·have he := eql_nil
  go_enter func32, ntmps32
  go_wp2_with fail
  go_ret
  exact ⟨.inl ⟨trivial, rfl⟩, Below.refl _ _⟩
 ·have he := eql_some
  have hTn := hS.1
  have HF := Hi (fun j u (hu : hs.flatten[j]? = some u) => show (w.alloc (.cells #[] 107)).cell? ⟨g, 0 + j, none⟩ = some u by
   rw [(qg.alloc _).cell, Nat.zero_add]; exact hf j u hu)
  have HL := Hi (flat_len hs hS.len)
  have HO := Lib.hid hS.one
  have own0 := (OwnS.made (base := w.heap.size) w 107 32 (Nat.le_refl _)).own
  have hal := (Below.refl w.heap.size w).alloc (Nat.le_refl _) (.cells #[] 107)
  have HAl := Lib.hid hal
  obtain ⟨n, hn⟩ : ∃ n, n = hs.length := ⟨_, rfl⟩
  have HnL := Lib.hid hn
  rw [← hn]
  rw [← hn] at hTn
  rw [← hTn]
  clear hS hf qg hal hc
  go_enter func32, ntmps32
  go_wp2_with (at_builtin; refine app T_held rfl _ _ rfl w.heap.size (.slice (some ⟨w.heap.size, 0, none⟩) 0 0) 0 [] rfl own0 g 0 n cap hs.flatten rfl (by rw [HL.out, HnL.out]) HF.out HO.out (by omega) (by omega) (by simp) ?_; intro va wa howna hga hna)
  go_ret
  have hBa := HAl.out.grown hga HAl.out.size (fun k hk => (own0.lt k hk).1)
  refine ⟨.inr ?_, hBa⟩
  rcases howna.2 with ⟨rfl, _⟩ | ⟨g', cap', cur', rfl, hg', hh, hn', hm', hsz, ht⟩
  ·have := hna.1 rfl
   simp at this
  ·refine ⟨g', cap', cur'.toList.drop ((0 + n) * 32), by rw [Nat.zero_add]; rfl, hg', by omega, hm', ?_⟩
   have : (hs.flatten ++ cur'.toList.drop ((0 + n) * 32)).toArray = cur' := by
    rw [show hs.flatten = cur'.toList.take ((0 + n) * 32) by rw [ht]; simp, List.take_append_drop]
   rw [this]
   exact hh
theorem find1_calls (h : List Value) (x nm : List UInt8) (b : Nat) (w : World) (q : Bk w b 9 #[st nm]) (_ : h.length = 32) (h0 : h[0]? = some (st x)) :
  Calls prog 289 #[.agg h.toArray, .pointer (some ⟨b, 0, none⟩)] w fun e w' => e = .returned (.bool (!decide (x = nm))) ∧ Below w.heap.size w w' := by
 have c0 : (w.alloc (.cells h.toArray 107)).cell? ⟨w.heap.size, 0, none⟩ = some (st x) := by rw [(Bk.new w _ _).cell]; simpa using h0
 have c1 := (q.alloc (.cells h.toArray 107)).cell 0
 have l1 := (q.alloc (.cells h.toArray 107)).lt
 have hB := (Below.refl w.heap.size w).alloc (Nat.le_refl _) (.cells h.toArray 107)
 go_enter func289, ntmps289
 go_wp2_with fail
 go_ret
 exact ⟨ret_bool (by by_cases e : x = nm <;> simp [e]), hB⟩
theorem drop1_calls (h : List Value) (x nm : List UInt8) (b : Nat) (w : World) (q : Bk w b 9 #[st nm]) (_ : h.length = 32) (h0 : h[0]? = some (st x)) :
  Calls prog 33 #[.agg h.toArray, .pointer (some ⟨b, 0, none⟩)] w fun e w' => e = .returned (.bool (decide (x = nm))) ∧ Below w.heap.size w w' := by
 have c0 : (w.alloc (.cells h.toArray 107)).cell? ⟨w.heap.size, 0, none⟩ = some (st x) := by rw [(Bk.new w _ _).cell]; simpa using h0
 have c1 := (q.alloc (.cells h.toArray 107)).cell 0
 have l1 := (q.alloc (.cells h.toArray 107)).lt
 have hB := (Below.refl w.heap.size w).alloc (Nat.le_refl _) (.cells h.toArray 107)
 go_enter func33, ntmps33
 go_wp2_with fail
 go_ret
 exact ⟨ret_bool (by by_cases e : x = nm <;> simp [e]), hB⟩
theorem best1_calls (h : List Value) (b : Nat) (w : World) (_ : h.length = 32) (h30 : h[30]? = some (.slice none 0 0)) :
  Calls prog 164 #[.agg h.toArray, .pointer (some ⟨b, 0, none⟩)] w fun e w' => e = .returned (.bool false) ∧ Below w.heap.size w w' := by
 have HEm := Hi (fun fv W => Tryz.slices_ContainsFunc_empty (α := Int) none 0 fv W)
 have c0 : (w.alloc (.cells h.toArray 107)).cell? ⟨w.heap.size, 30, none⟩ = some (.slice none 0 0) := by rw [(Bk.new w _ _).cell]; simpa using h30
 have l1 := (Bk.new w 107 h.toArray).lt
 have hB := (Below.refl w.heap.size w).alloc (Nat.le_refl _) (.cells h.toArray 107)
 go_enter func164, ntmps164
 go_wp2_with (refine (HEm.out _ _).mono ?_; rintro e w' ⟨rfl, rfl⟩)
 go_ret
 exact ⟨rfl, hB⟩
def nameH (h : List Value) : List UInt8 := match h[0]? with
 | some (Value.string b) => b.data.toList
 | _ => []
theorem HeM.nameH {W : World} {h : List Value} {t : En} (e : HeM W h t) : nameH h = t.1 := by
 unfold Go.Proofs.YtpmklccphbklaaaGreatDoor.nameH
 rw [e.at.1]
set_option maxRecDepth 100000
set_option maxHeartbeats 4000000
theorem pick_calls (_ f : Nat) (v : Value) (hs : List (List Value)) (T : List En) (_ : List UInt8) (p : List UInt8 → Bool) (w : World) (hS : ShA w v hs T) (hl : T.length ≤ 10000) (h0 : 0 < T.length) (ef : ∀ args w, (callFunc f args).run prog w = .ok (.enter f args) w)
  (b : Nat) (_ : b < w.heap.size) (hp : ∀ (h : List Value) (t : En) W, HeM w h t → Below w.heap.size w W → Calls prog f #[.agg h.toArray, .pointer (some ⟨b, 0, none⟩)] W fun e w' => e = .returned (.bool (!p t.1)) ∧ Below W.heap.size W w')
  (g cap : Nat) (R : List Value) (w1 : World) (hB1 : Below w.heap.size w w1) (hg : w.heap.size ≤ g) (hc : T.length ≤ cap) (hm : cap ≤ maxLen) (q : Bk w1 g 107 (hs.flatten ++ R).toArray) :
  Calls prog 31 #[.slice (some ⟨g, 0, none⟩) T.length cap, .func (.func f) #[] #[.pointer (some ⟨b, 0, none⟩)]] w1 fun e w' => ∃ v' hs', e = .returned v' ∧ (∃ n, v' = .slice (some ⟨g, 0, none⟩) n cap) ∧ ShA w' v' hs' (T.filter fun t => p t.1) ∧ Below w.heap.size w w' := by
 have hd : ∀ (k : Nat) (h : List Value) (t : En), hs[k]? = some h → T[k]? = some t → (fun h => !p (nameH h)) h = !p t.1 := fun k h t hh ht => by
  show (!p (nameH h)) = _
  rw [(hS.2.1 k h t hh ht).nameH]
 refine (DeleteH_calls w.heap.size g T.length cap f #[.pointer (some ⟨b, 0, none⟩)] (fun h => !p (nameH h)) hs R w1 ef hS.len (fun h hh u hu => by
  obtain ⟨t, _, e⟩ := hS.ent h hh
  exact e.one u hu) hS.1 (by omega) hc hm hg q (fun h hh W hW => by
  obtain ⟨t, _, e⟩ := hS.ent h hh
  have := hp h t W e (hB1.trans hW)
  simpa [e.nameH] using this)).mono ?_
 rintro e w' ⟨cur, rfl, qc, hf, hB, _⟩
 refine ⟨_, _, rfl, ⟨_, rfl⟩, hS.filt (hB1.trans hB) p qc (fun h => !p (nameH h)) hd ?_ hm hf, hB1.trans hB⟩
 refine Nat.le_trans (List.length_filter_le _ _) ?_
 have := hS.1
 omega
theorem ShA.some {W : World} {v : Value} {hs : List (List Value)} {T : List En} (h : ShA W v hs T) (h0 : 0 < T.length) : v ≠ .slice none 0 0 := by
 obtain ⟨h1, _, h3⟩ := h
 rcases h3 with ⟨rfl, rfl⟩ | ⟨g, cap, cur, rfl, _⟩
 ·simp at h1; omega
 ·simp
theorem Find_calls (v : Value) (hs : List (List Value)) (T : List En) (nm : List UInt8) (w : World) (hS : ShA w v hs T) (hl : T.length ≤ 10000) (h0 : 0 < T.length) :
  Calls prog 163 #[.agg #[v], st nm] w fun e w' => ∃ v' hs', e = .returned v' ∧ (∃ g n cap, v' = .slice (some ⟨g, 0, none⟩) n cap ∧ w.heap.size ≤ g) ∧ ShA w' v' hs' (T.filter fun t => decide (t.1 = nm)) ∧ Below w.heap.size w w' := by
 obtain ⟨A, cap0, rfl, _⟩ := hS.slice
 have hne := hS.some h0
 have hB0 : Below w.heap.size w ((w.alloc (.cells #[.slice A T.length cap0] 27)).alloc (.cells #[st nm] 9)) := ((Below.refl _ _).alloc (Nat.le_refl _) _).alloc (by simp) _
 have q1 := (Bk.new w 27 #[.slice A T.length cap0]).alloc (.cells #[st nm] 9)
 have q2 := Bk.new (w.alloc (.cells #[.slice A T.length cap0] 27)) 9 #[st nm]
 simp only [World.size_alloc] at q2
 have HS := Hi (hS.kept hB0)
 have HN := Lib.hid hne
 clear hS hne
 go_enter func163, ntmps163
 go_wp2_with fail
 have hsW : ((w.alloc (.cells #[.slice A T.length cap0] 27)).alloc (.cells #[st nm] 9)).heap.size = w.heap.size + 1 + 1 := by simp
 generalize (w.alloc _).alloc _ = W at *
 have c1 := q1.cell 0
 have l1 := q1.lt
 go_wp2_with fail
 refine (CloneH_calls _ hs T W HS.out hl).mono ?_
 rintro e w1 ⟨⟨h, rfl⟩ | ⟨g, cap, R, rfl, hg, hc, hm, q⟩, hB1⟩
 ·exact absurd h HN.out
 have HQ := Hi (And.intro q hB1)
 have hq2 := q2.kept hB1
 clear c1 l1 q1 hB1 q
 go_wp2_with fail
 refine (pick_calls 0 289 _ hs T nm (fun x => decide (x = nm)) W HS.out hl h0 (enters_of func289 (by kernel_rfl) rfl) (w.heap.size + 1) (by omega) (fun h t X e hX => find1_calls h t.1 nm _ X (q2.kept hX) e.len e.at.1) g cap R w1 HQ.out.2 (by omega) hc hm HQ.out.1).mono ?_
 rintro e w2 ⟨v', hs', rfl, ⟨n, rfl⟩, h1, h2⟩
 go_wp2_with fail
 go_ret
 exact ⟨_, hs', rfl, ⟨g, n, cap, rfl, by omega⟩, h1, hB0.trans (h2.mono (by omega))⟩
theorem Drop_calls (v : Value) (hs : List (List Value)) (T : List En) (nm : List UInt8) (w : World) (hS : ShA w v hs T) (hl : T.length ≤ 10000) (h0 : 0 < T.length) :
  Calls prog 10 #[.agg #[v], st nm] w fun e w' => ∃ v' hs', e = .returned (.agg #[v']) ∧ ShA w' v' hs' (dropE T nm) ∧ Below w.heap.size w w' := by
 obtain ⟨A, cap0, rfl, _⟩ := hS.slice
 have hne := hS.some h0
 have hB0 : Below w.heap.size w (((w.alloc (.cells #[.slice A T.length cap0] 27)).alloc (.cells #[st nm] 9)).alloc (.cells #[.slice none 0 0] 27)) := (((Below.refl _ _).alloc (Nat.le_refl _) _).alloc (by simp) _).alloc (by simp; omega) _
 have q1 := ((Bk.new w 27 #[.slice A T.length cap0]).alloc (.cells #[st nm] 9)).alloc (.cells #[.slice none 0 0] 27)
 have q2 := (Bk.new (w.alloc (.cells #[.slice A T.length cap0] 27)) 9 #[st nm]).alloc (.cells #[.slice none 0 0] 27)
 have q3 := Bk.new ((w.alloc (.cells #[.slice A T.length cap0] 27)).alloc (.cells #[st nm] 9)) 27 #[.slice none 0 0]
 simp only [World.size_alloc] at q2 q3
 have HS := Hi (hS.kept hB0)
 have HN := Lib.hid hne
 clear hS hne
 go_enter func10, ntmps10
 go_wp2_with fail
 generalize ((w.alloc _).alloc _).alloc _ = W at *
 have c1 := q1.cell 0
 have l1 := q1.lt
 have l2 := q2.lt
 have l3 := q3.lt
 go_wp2_with fail
 refine (CloneH_calls _ hs T W HS.out hl).mono ?_
 rintro e w1 ⟨⟨h, rfl⟩ | ⟨g, cap, R, rfl, hg, hc, hm, q⟩, hB1⟩
 ·exact absurd h HN.out
 have HQ := Hi (And.intro q hB1)
 clear c1 l1 q1 hB1 q
 go_wp2_with fail
 refine (pick_calls 0 33 _ hs T nm (fun x => !decide (x = nm)) W HS.out hl h0 (enters_of func33 (by kernel_rfl) rfl) (w.heap.size + 1) l2 (fun h t X e hX => by rw [Bool.not_not]; exact drop1_calls h t.1 nm _ X (q2.kept hX) e.len e.at.1) g cap R w1 HQ.out.2 hg hc hm HQ.out.1).mono ?_
 rintro e w2 ⟨v', hs', rfl, ⟨n, rfl⟩, h1, h2⟩
 have q3 := q3.kept h2
 have hB := hB0.trans (h2.mono (Nat.le_of_lt (by omega)))
 have c3 := q3.cell 0
 have f3 := q3.frozen 0
 have l3 := q3.lt
 have x3 := (q3.put 0 (.slice (some ⟨g, 0, none⟩) n cap)).cell 0
 have h1 : ShA (w2.setCell ⟨w.heap.size + 1 + 1, 0, none⟩ (.slice (some ⟨g, 0, none⟩) n cap)) (.slice (some ⟨g, 0, none⟩) n cap) hs' (dropE T nm) := h1.tr (trP_set q3 0 _) (by decide) (by decide) (by decide)
 go_wp2_with fail
 exact bodyPost_ret (v := .agg #[.slice (some ⟨g, 0, none⟩) n cap]) (by simp [results, results10, go_sem, x3]) rfl ⟨_, hs', rfl, h1, hB.setCell (p := ⟨w.heap.size + 1 + 1, 0, none⟩) (show w.heap.size ≤ w.heap.size + 1 + 1 by omega) _⟩
theorem run_fHeld31 (x : Nat → Value) (v : Value) (w : World) : (Instr.field 107 (.agg (k31 x ++ [v]).toArray) 0).run prog w = .ok (.agg (k31 x).toArray) w := by kernel_rfl
theorem run_fHeldC {C : List Value} (h : C.length = 31) (v : Value) (w : World) : (Instr.field 107 (.agg (C ++ [v]).toArray) 0).run prog w = .ok (.agg C.toArray) w := by
 rw [k31_of h]; exact run_fHeld31 _ _ _
abbrev zHeldA : Array Value := #[.string ⟨#[]⟩, .slice none 0 0, .slice none 0 0, .bool false, .slice none 0 0, .slice none 0 0, .slice none 0 0, .int .i64 0, .bool false, .slice none 0 0, .slice none 0 0, .slice none 0 0, .int .i64 0, .int .i64 0, .int .i64 0, .int .i64 0, .slice none 0 0, .slice none 0 0, .slice none 0 0, .slice none 0 0, .bool false, .slice none 0 0, .bool false, .slice none 0 0, .slice none 0 0, .slice none 0 0, .slice none 0 0, .slice none 0 0, .slice none 0 0, .slice none 0 0, .slice none 0 0, .slice none 0 0]
theorem MinH_one (g cap f : Nat) (h : List Value) (w : World) (h32 : h.length = 32) (h1 : ∀ u ∈ h, u.oneCell' = true) (hg : g < w.heap.size) (hc : ∀ j u, h[j]? = some u → w.cell? ⟨g, j, none⟩ = some u) :
  Calls prog 166 #[.slice (some ⟨g, 0, none⟩) 1 cap, .func (.func f) #[] #[]] w fun e w' => e = .returned (.agg h.toArray) ∧ Below w.heap.size w w' := by
 have q0 := Bk.new w 107 zHeldA
 have hal := (Below.refl w.heap.size w).alloc (Nat.le_refl _) (.cells zHeldA 107)
 have HC : Hid (∀ (j : Nat) (u : Value), h[j]? = some u → (w.alloc (.cells zHeldA 107)).cell? ⟨g, 0 + j, none⟩ = some u) := Lib.hid fun j u hu => by rw [Nat.zero_add]; exact (hal.cell (p := ⟨g, j, none⟩) hg).trans (hc j u hu)
 clear hc
 go_enter func166, ntmps166
 go_upto_region 1 with (fail)
 generalize w.alloc _ = W at *
 go_upto_region 4 with (first
  | (refine loadW A_held rfl _ rfl g 0 rfl h h32 HC.out ?_)
  | (refine kStore A_held rfl _ _ rfl rfl rfl h.toArray rfl (by simpa using h32) rfl (by simpa using h1) ?_; intro X qX hX))
 have hXl := bk_list qX
 have q0 := q0.kept hX
 have hB := hal.trans (hX.mono hal.size)
 go_wp2_with fail
 go_loopw [6] (fun i wr => i = .int .i64 1 ∧ wr = X) (fun _ _ => 0)
 case atStart => exact ⟨rfl, rfl⟩
 case round =>
  obtain ⟨rfl, rfl⟩ := hrel
  have qR := setRow_bk q0 h.toArray
  have hR := below_setRow hB (Nat.le_refl _) h.toArray
  go_wp2_with (first
   | (refine loadW A_held rfl _ rfl W.heap.size 0 rfl h h32 hXl ?_)
   | (refine storeW A_held rfl _ _ rfl rfl _ rfl h.toArray rfl (by simpa using h32) _ q0 rfl (by simpa using h1) ?_))
  exact bodyPost_ret (v := .agg h.toArray) (res_box (i := 4) (T := 107) (by kernel_rfl) A_held rfl qR (by simpa using h32)) rfl ⟨rfl, hR⟩
theorem filt_one {T : List En} (nm : List UInt8) (h : (T.map (·.1)).Nodup) : T.filter (fun t => decide (t.1 = nm)) = (findE T nm).toList := by
 unfold findE
 induction T with
 | nil => rfl
 | cons t T ih =>
  rw [List.map_cons, List.nodup_cons] at h
  by_cases e : t.1 = nm
  ·rw [List.filter_cons_of_pos (by simp [e]), List.find?_cons_of_pos (by simp [e])]
   have : T.filter (fun t => decide (t.1 = nm)) = [] := by
    rw [List.filter_eq_nil_iff]
    intro x hx
    simp only [decide_eq_true_eq]
    intro e2
    exact h.1 (List.mem_map.2 ⟨x, hx, by rw [e2, e]⟩)
   rw [this]
   rfl
  ·rw [List.filter_cons_of_neg (by simp [e]), List.find?_cons_of_neg (by simp [e]), ih h.2]
def RetBest (w : World) (r : Option En) (e : Ending) (w' : World) : Prop :=
 (∃ C t, r = some t ∧ e = .returned (.tuple #[.agg (List.toArray C), .bool true]) ∧ EnM w' C t ∧ Below w.heap.size w w') ∨ (r = none ∧ e = .returned (.tuple #[.agg zEntA, .bool false]) ∧ Below w.heap.size w w')
theorem pref_eq {l : List Value} {cur : Array Value} (h : ∀ (j : Nat) (u : Value), l[j]? = some u → cur[j]? = some u) : cur = (l ++ cur.toList.drop l.length).toArray := by
 apply Array.ext_getElem?
 intro i
 simp only [List.getElem?_toArray]
 rcases Nat.lt_or_ge i l.length with hi | hi
 ·rw [List.getElem?_append_left hi, List.getElem?_eq_getElem hi, h i _ (List.getElem?_eq_getElem hi)]
 ·rw [List.getElem?_append_right hi, List.getElem?_drop, show l.length + (i - l.length) = i by omega]
  simp
theorem Best_calls (v : Value) (hs : List (List Value)) (T : List En) (nm : List UInt8) (w : World) (hS : ShA w v hs T) (hl : T.length ≤ 10000) (h0 : 0 < T.length) (hnd : (T.map (·.1)).Nodup) :
  Calls prog 109 #[.agg #[v], st nm, .slice none 0 0] w (RetBest w (findE T nm)) := by
 obtain ⟨A, cap0, rfl, _⟩ := hS.slice
 have hB0 : Below w.heap.size w (((w.alloc (.cells #[.slice A T.length cap0] 27)).alloc (.cells #[.slice none 0 0] 22)).alloc (.cells zEntA 85)) := (((Below.refl _ _).alloc (Nat.le_refl _) _).alloc (by simp) _).alloc (by simp; omega) _
 have q1 := ((Bk.new w 27 #[.slice A T.length cap0]).alloc (.cells #[.slice none 0 0] 22)).alloc (.cells zEntA 85)
 have q3 := Bk.new ((w.alloc (.cells #[.slice A T.length cap0] 27)).alloc (.cells #[.slice none 0 0] 22)) 85 zEntA
 simp only [World.size_alloc] at q3
 have HF := Hi (fun W (h : Below w.heap.size w W) => Find_calls _ hs T nm W (hS.kept h) hl h0)
 have HO := Hi (filt_one nm hnd)
 clear hS hnd
 go_enter func109, ntmps109
 go_wp2_with fail
 generalize ((w.alloc _).alloc _).alloc _ = W at *
 have c1 := q1.cell 0
 have l1 := q1.lt
 go_wp2_with fail
 refine (HF.out _ hB0).mono ?_
 rintro e w1 ⟨v', hs', rfl, ⟨g, n, cap, rfl, hg⟩, hS1, hB1⟩
 have hsz := q3.lt
 have q3 := q3.kept hB1
 have hB := hB0.trans (hB1.mono hB0.size)
 rw [HO.out] at hS1
 clear c1 l1 q1 hB1 HF
 have hD : Calls prog 31 #[.slice (some ⟨g, 0, none⟩) n cap, .func (.func 164) #[] #[.pointer (some ⟨w.heap.size + 1, 0, none⟩)]] w1 fun e w' => e = .returned (.slice (some ⟨g, 0, none⟩) n cap) ∧ ShA w' (.slice (some ⟨g, 0, none⟩) n cap) hs' (findE T nm).toList ∧ Below W.heap.size w1 w' := by
  have hlen : hs'.length = n := by
   obtain ⟨_, _, e, _⟩ := hS1.slice
   injection e with _ e
   rw [hS1.1, e]
  rcases hS1.2.2 with ⟨h, _⟩ | ⟨g', cap', cur, hv, qg, hc, hm, hf⟩
  ·cases h
  ·injection hv with e1 e2 e3
   injection e1 with e1
   injection e1 with e1
   subst e1 e3
   rw [pref_eq hf] at qg
   have hFi : (hs'.filter fun h => !(fun _ => false) h) = hs' := List.filter_eq_self.2 fun _ _ => rfl
   refine (DeleteH_calls W.heap.size g n cap 164 #[.pointer (some ⟨w.heap.size + 1, 0, none⟩)] (fun _ => false) hs' _ w1 (enters_of func164 (by kernel_rfl) rfl) hS1.len (fun h hh u hu => by
    obtain ⟨t, _, e⟩ := hS1.ent h hh
    exact e.one u hu) hlen (by have := hS1.1; have : (findE T nm).toList.length ≤ 1 := by cases findE T nm <;> simp
                               omega) (by omega) hm hg qg (fun h hh X _ => by
    obtain ⟨t, _, e⟩ := hS1.ent h hh
    exact best1_calls h _ X e.len e.at.2)).mono ?_
   rintro e w' ⟨cur', rfl, qc, hf', hB', hT⟩
   rw [hFi] at hf' ⊢
   exact ⟨by rw [hlen], ⟨hS1.1, fun k a t ha ht => (hS1.2.1 k a t ha ht).tr hT (by decide) (by decide), .inr ⟨g, cap, cur', by rw [hlen], qc, by omega, hm, hf'⟩⟩, hB'⟩
 have HD := Lib.hid hD
 have hn : n = (findE T nm).toList.length := by
  obtain ⟨_, _, e, _⟩ := hS1.slice
  injection e
 clear hD hS1
 generalize findE T nm = r at *
 cases r with
 | none =>
  simp only [Option.toList, List.length_nil] at hn HD
  subst hn
  go_wp2_with fail
  refine HD.out.mono ?_
  rintro e w2 ⟨rfl, hS2, hB2⟩
  have q3 := q3.kb hB2 (by omega)
  have hB := hB.trans (hB2.mono hB0.size)
  have qR := setRow_bk q3 zEntA
  have hR := below_setRow hB (show w.heap.size ≤ w.heap.size + 1 + 1 by omega) zEntA
  have hbe := run_bEnt0
  go_wp2_with (refine storeW A_entry rfl _ _ rfl rfl _ rfl zEntA rfl rfl _ q3 rfl (by simp [Value.oneCell']) ?_)
  exact bodyPost_end (v := .tuple #[.agg zEntA, .bool false]) (res_box2 (i := 6) (j := 7) (T := 85) (by kernel_rfl) A_entry rfl rfl qR rfl) rfl (.inr ⟨rfl, rfl, hR⟩)
 | some t =>
  simp only [Option.toList, List.length_cons, List.length_nil] at hn HD
  subst hn
  go_wp2_with fail
  refine HD.out.mono ?_
  rintro e w2 ⟨rfl, hS2, hB2⟩
  have q3 := q3.kb hB2 (by omega)
  have hB := hB.trans (hB2.mono hB0.size)
  obtain ⟨a, ha⟩ : ∃ a, hs' = [a] := by
   have := hS2.1
   match hs', this with
   | [a], _ => exact ⟨a, rfl⟩
  subst ha
  have he := hS2.2.1 0 a t rfl rfl
  have hc : ∀ j u, a[j]? = some u → w2.cell? ⟨g, j, none⟩ = some u := by
   rcases hS2.2.2 with ⟨h, _⟩ | ⟨g', cap', cur, hv, hg', _, _, hf⟩
   ·cases h
   ·injection hv with e1
    injection e1 with e1
    injection e1 with e1
    subst e1
    intro j u hu
    rw [hg'.cell]
    exact hf j u (by simpa using hu)
  have hgl : g < w2.heap.size := by
   rcases hS2.2.2 with ⟨h, _⟩ | ⟨g', cap', cur, hv, hg', _⟩
   ·cases h
   ·injection hv with e1
    injection e1 with e1
    injection e1 with e1
    subst e1
    exact hg'.lt
  obtain ⟨C, As, ns, cs, rfl, hE⟩ := he.ex
  have hlen := hE.len
  have h1 := hE.one
  have hfd := run_fHeldC hlen (.slice As ns cs)
  have HM := Hi (MinH_one g cap 167 (C ++ [.slice As ns cs]) w2 he.len he.one hgl hc)
  clear hc hS2 he
  go_wp2_with fail
  refine HM.out.mono ?_
  rintro e w3 ⟨rfl, hB3⟩
  have q3 := q3.kept hB3
  have hE := hE.kept hB3
  have hB := hB.trans (hB3.mono hB.size)
  have qR := setRow_bk q3 C.toArray
  have hR := below_setRow hB (show w.heap.size ≤ w.heap.size + 1 + 1 by omega) C.toArray
  have hE := hE.tr (trP_row2 q3 C.toArray) (by decide) (by decide)
  go_wp2_with (refine storeW A_entry rfl _ _ rfl rfl _ rfl C.toArray rfl (by simpa using hlen) _ q3 rfl (by simpa using h1) ?_)
  exact bodyPost_end (v := .tuple #[.agg C.toArray, .bool true]) (res_box2 (i := 6) (j := 7) (T := 85) (by kernel_rfl) A_entry rfl rfl qR (by simpa using hlen)) rfl (.inl ⟨C, t, rfl, rfl, hE, hR⟩)
end Go.Proofs.YtpmklccphbklaaaGreatDoor
