/- TopAudits: a shelf with the entries that are made for the objects of a. -/
import Derived.Test.YtpmklccphbklaaaGreatDoorVF
namespace Go.Proofs.YtpmklccphbklaaaGreatDoor
open Go.RowKit Go.Shelf Go.Proofs.Tryz
set_option maxRecDepth 100000
set_option maxHeartbeats 8000000
theorem foldl_take_succ {l : List En} {k : Nat} {t : En} (h : l[k]? = some t) (T : List En) : (l.take (k + 1)).foldl insE T = insE ((l.take k).foldl insE T) t := by
 rw [List.take_add_one, h]
 simp
theorem foldl_len (l : List En) : ∀ T : List En, (l.foldl insE T).length = T.length + l.length := by
 induction l with
 | nil => intro T; rfl
 | cons a l ih => intro T; rw [List.foldl_cons, ih, insE_len, List.length_cons]; omega
theorem shelved_calls (tv : Int × Int × Int × Int) (l : List En) (v : Value) (hs : List (List Value)) (T : List En) (w : World) (hS : ShA w v hs T) (hlen : T.length + l.length ≤ 300)
  (hO : ∀ W, Below w.heap.size w W → Calls prog 13 #[tb tv.1 tv.2.1 tv.2.2.1 tv.2.2.2] W (RetNames W (l.map (·.1))))
  (hM : ∀ t ∈ l, ∀ W, Below w.heap.size w W → Calls prog 14 #[st t.1] W fun e w' => ∃ C, e = .returned (.tuple #[.agg (List.toArray C), .int .i64 0]) ∧ EnM w' C t ∧ Below W.heap.size W w')
  (hnd : ((T ++ l).map (·.1)).Nodup) :
  Calls prog 4 #[.agg #[v], tb tv.1 tv.2.1 tv.2.2.1 tv.2.2.2] w fun e w' => ∃ v' hs', e = .returned (.tuple #[.agg #[v'], .bool true]) ∧ ShA w' v' hs' (l.foldl insE T) ∧ Below w.heap.size w w' := by
 obtain ⟨A, cap0, rfl, _⟩ := hS.slice
 obtain ⟨t1, t2, t3, t4⟩ := tv
 dsimp only at hO ⊢
 have hB0 : Below w.heap.size w (((w.alloc (.cells #[.slice A T.length cap0] 27)).alloc (.cells #[.int .i64 t1, .int .i64 t2, .int .i64 t3, .int .i64 t4] 24)).alloc (.cells #[.slice none 0 0] 27)) := (((Below.refl _ _).alloc (Nat.le_refl _) _).alloc (by simp) _).alloc (by simp; omega) _
 have q1 := ((Bk.new w 27 #[.slice A T.length cap0]).alloc (.cells #[.int .i64 t1, .int .i64 t2, .int .i64 t3, .int .i64 t4] 24)).alloc (.cells #[.slice none 0 0] 27)
 have q2 := (Bk.new (w.alloc (.cells #[.slice A T.length cap0] 27)) 24 #[.int .i64 t1, .int .i64 t2, .int .i64 t3, .int .i64 t4]).alloc (.cells #[.slice none 0 0] 27)
 have q3 := Bk.new ((w.alloc (.cells #[.slice A T.length cap0] 27)).alloc (.cells #[.int .i64 t1, .int .i64 t2, .int .i64 t3, .int .i64 t4] 24)) 27 #[.slice none 0 0]
 simp only [World.size_alloc] at q2 q3
 have HS := Hi (hS.kept hB0)
 have HO := Lib.hid hO
 have HM := Lib.hid hM
 have HN := Lib.hid hnd
 obtain ⟨N, hN⟩ : ∃ N, N = l.length := ⟨_, rfl⟩
 have Hl := Lib.hid hN
 rw [← hN] at hlen
 clear hS hO hM hnd hN
 go_enter func4, ntmps4
 go_wp2_with fail
 generalize ((w.alloc _).alloc _).alloc _ = W at *
 have c0 := q2.cell 0
 have c1 := q2.cell 1
 have c2 := q2.cell 2
 have c3 := q2.cell 3
 have l2 := q2.lt
 go_wp2_with fail
 refine (HO.out _ hB0).mono ?_
 rintro e w1 ⟨vn, rfl, hrow, hB1⟩
 rw [List.length_map, ← Hl.out] at hrow
 have HR := Lib.hid hrow
 have q1 := q1.kept hB1
 have q3 := q3.kept hB1
 have HS1 := Hi (HS.out.kept hB1)
 have HB := Hi (hB0.trans (hB1.mono hB0.size))
 clear c0 c1 c2 c3 l2 q2 hrow hB0 hB1
 have hvn : ∃ An cn, vn = .slice An N cn ∧ (0 < N → ∃ g cur, An = some ⟨g, 0, none⟩ ∧ Bk w1 g 9 cur ∧ ∀ (j : Nat) (u : Value), ((l.map (·.1)).map st)[j]? = some u → cur[j]? = some u) := by
  rcases HR.out.2 with ⟨rfl, h0⟩ | ⟨g, cap, cur, rfl, _, hh, hc⟩
  ·exact ⟨none, 0, by rw [h0], fun h => by omega⟩
  ·refine ⟨_, cap, rfl, fun _ => ⟨g, cur, rfl, hh, fun j u hu => ?_⟩⟩
   rw [← hc.2.2.2, List.getElem?_take] at hu
   split at hu
   ·simpa using hu
   ·cases hu
 obtain ⟨An, cn, rfl, hAn⟩ := hvn
 have HAn := Lib.hid hAn
 clear hAn
 have hl400 : N < 400 := by omega
 go_wp2_with fail
 go_loopw [8, 9] (fun ok i wr => ∃ k : Nat, k ≤ N ∧ i = .int .i64 k ∧ ok = .bool true ∧ ∃ v' hs', Bk wr w.heap.size 27 #[v'] ∧ Bk wr (w.heap.size + 1 + 1) 27 #[.slice none 0 0] ∧ Hid (ShA wr v' hs' ((l.take k).foldl insE T)) ∧ TrP (fun t => t ≠ 27) w1 wr ∧ Below w.heap.size w wr) (fun _ i _ => N - (intOf i).toNat)
 case atStart => exact ⟨0, by omega, rfl, rfl, _, hs, q1, q3, Hi (by simpa using HS1.out), fun _ _ _ _ q => q, HB.out⟩
 case round =>
  clear q1 q3
  obtain ⟨k, hk, rfl, rfl, v', hs', q1, q3, HSk, hT, hB⟩ := hrel
  obtain ⟨A', cap', rfl, _⟩ := HSk.out.slice
  by_cases hlt : k < N
  ·obtain ⟨t, ht⟩ : ∃ t, l[k]? = some t := ⟨_, List.getElem?_eq_getElem (by rw [← Hl.out]; exact hlt)⟩
   obtain ⟨gn, curn, rfl, qn, hcn⟩ := HAn.out (by omega)
   have qn := hT _ _ _ (by decide) qn
   have cn' : wr.cell? ⟨gn, k, none⟩ = some (st t.1) := by rw [qn.cell]; exact hcn k _ (by simp [ht])
   have lnn := qn.lt
   have hlt' : decide ((k : Int) < (N : Int)) = true := by simp; omega
   have hl4 : decide ((k : Int) < 400) = true := by simp; omega
   have hcall := HM.out t (List.mem_of_getElem? ht) wr hB
   have HT1 := Hi (foldl_take_succ ht T)
   have HNe := Hi (show ∀ x ∈ (l.take k).foldl insE T, x.1 ≠ t.1 from fun x hx e => by
    have hnd := HN.out
    rw [List.map_append, List.nodup_append] at hnd
    have htm : t.1 ∈ l.map (·.1) := List.mem_map.2 ⟨t, List.mem_of_getElem? ht, rfl⟩
    rcases (shelf_mem (l.take k) T x).1 hx with h | h
    ·exact hnd.2.2 x.1 (List.mem_map.2 ⟨x, h, rfl⟩) t.1 htm e
    ·obtain ⟨i, hi⟩ := List.getElem?_of_mem h
     have hik : i < k := by have := (List.getElem?_eq_some_iff.1 hi).1; simp at this; omega
     rw [List.getElem?_take_of_lt hik] at hi
     have h1 := (List.getElem?_eq_some_iff.1 hi).1
     have h2 := (List.getElem?_eq_some_iff.1 ht).1
     refine List.pairwise_iff_getElem.1 hnd.2.1 i k (by simpa using h1) (by simpa using h2) hik ?_
     simp only [List.getElem_map]
     rw [(List.getElem?_eq_some_iff.1 hi).2, (List.getElem?_eq_some_iff.1 ht).2]
     exact e)
   clear ht hcn
   go_upto_region 7 with (first
    | (refine hcall.mono ?_; rintro e w2 ⟨C, rfl, hE, hB2⟩; have hlen9 := hE.len; have h19 := hE.one)
    | (refine kStore A_entry rfl _ _ rfl rfl rfl C.toArray rfl (by simpa using hlen9) rfl (by simpa using h19) ?_; intro X qX hX))
   have hBX := (hB.trans (hB2.mono hB.size)).trans (hX.mono (Nat.le_trans hB.size hB2.size))
   have q1 := (q1.kept hB2).kept hX
   have q3 := (q3.kept hB2).kept hX
   have HS2 := (HSk.out.kept hB2).kept hX
   have hE := hE.kept hX
   have hT2 : TrP (fun t => t ≠ 27) w1 X := fun b t cs hp q => ((hT b t cs hp q).kept hB2).kept hX
   have hne : ∀ x ∈ (l.take k).foldl insE T, x.1 ≠ t.1 := HNe.out
   have hl9 : ((l.take k).foldl insE T).length ≤ 10000 := by rw [foldl_len, List.length_take]; omega
   have hadd := AddE_calls _ hs' _ C t 0 (1 + (k : Int) % 3) 0 X HS2 hE hne hl9
   have c0 := q1.cell 0
   have l1 := q1.lt
   have HXc := Hi (bk_list qX)
   have lX := qX.lt
   clear HSk hT hB hB2 hX hcall hne cn' lnn qn HS2
   go_wp2_with (first
    | (refine loadW A_entry rfl _ rfl w2.heap.size 0 rfl C hlen9 HXc.out ?_)
    | (refine hadd.mono ?_; rintro e w3 ⟨v3, hs3, rfl, hS3, hB3⟩; obtain ⟨A3, cap3, rfl, _⟩ := hS3.slice; have q1 := q1.kept hB3; have z0 := q1.cell 0; have zf := q1.frozen 0; have zl := q1.lt))
   have q3 := q3.kept hB3
   have tS := trP_set q1 0 (.slice A3 (insE ((l.take k).foldl insE T) t).length cap3)
   have hT3 : TrP (fun t => t ≠ 27) w1 (w3.setCell ⟨w.heap.size, 0, none⟩ (.slice A3 (insE ((l.take k).foldl insE T) t).length cap3)) := fun b t cs hp q => tS b t cs hp ((hT2 b t cs hp q).kept hB3)
   have hBf := (hBX.trans (hB3.mono hBX.size)).setCell (p := ⟨w.heap.size, 0, none⟩) (Nat.le_refl _) (.slice A3 (insE ((l.take k).foldl insE T) t).length cap3)
   go_roundw
   case rel => exact ⟨k + 1, by omega, by go_num, rfl, _, hs3, q1.put 0 _, q3.far (p := ⟨w.heap.size, 0, none⟩) _ (by simp; omega), Hi (by rw [HT1.out]; exact hS3.tr tS (by decide) (by decide) (by decide)), hT3, hBf⟩
   case measure => simp [intOf]; omega
  ·obtain rfl : k = N := by omega
   have hlt' : decide ((k : Int) < (k : Int)) = false := by simp
   have HF := Hi (And.intro HSk.out hB)
   rw [List.take_of_length_le (by rw [← Hl.out]; exact Nat.le_refl _)] at HF q1
   obtain ⟨h9, hB9⟩ := HF.out
   have c0 := q1.cell 0
   have l1 := q1.lt
   have y0 := q3.cell 0
   have yf := q3.frozen 0
   have l3 := q3.lt
   go_wp2_with fail
   have z3 := (q3.put 0 (.slice A' (l.foldl insE T).length cap')).cell 0
   have tS := trP_set q3 0 (.slice A' (l.foldl insE T).length cap')
   exact bodyPost_ret (v := .tuple #[.agg #[.slice A' (l.foldl insE T).length cap'], .bool true]) (by simp [results, results4, go_sem, z3]) rfl ⟨_, hs', rfl, h9.tr tS (by decide) (by decide) (by decide), hB9.setCell (by simp; omega) _⟩
theorem hurQ_ok : ((List.range 53).all fun n => decide ((hurQ n).2 < 30000) && (!(hurQ n).1 || decide (0 < (hurQ n).2))) = true := by kernel_rfl
theorem makeH (p : Nat) (h : TF p) (w : World) (hG : Glob w) : ∀ t ∈ enH p, ∀ W, Below w.heap.size w W → Calls prog 14 #[st t.1] W fun e w' => ∃ C, e = .returned (.tuple #[.agg (List.toArray C), .int .i64 0]) ∧ EnM w' C t ∧ Below W.heap.size W w' := by
 intro t ht W hW
 have hp := h.hi
 unfold enH at ht
 obtain ⟨n, hn, rfl⟩ := List.mem_map.1 ht
 rw [List.mem_range] at hn
 have hq : ∀ n, n < 53 → (hurQ n).2 < 30000 ∧ ((hurQ n).1 = true → 0 < (hurQ n).2) := fun n hn => by
  have := List.all_eq_true.1 hurQ_ok n (List.mem_range.2 hn)
  simp only [Bool.and_eq_true, decide_eq_true_eq, Bool.or_eq_true, Bool.not_eq_true'] at this
  exact ⟨this.1, fun h => by rcases this.2 with h' | h'; (rw [h] at h'; cases h'); exact h'⟩
 have hl : (hName n).length ≤ 80 := by
  have := dg_len n
  unfold hName
  simp; omega
 exact MakeE_calls (hName n) 226 4 [(false, n)] (hurQ n).1 (hurQ n).2 W (obj_h n (by omega) W (hG.kept hW)) (hurM n (by omega) (hq n (by omega)).1 (hq n (by omega)).2) hl (enters_of func226 (by kernel_rfl) rfl)
theorem makeC (p : Nat) (h : TF p) (w : World) (hG : Glob w) : ∀ t ∈ enC p, ∀ W, Below w.heap.size w W → Calls prog 14 #[st t.1] W fun e w' => ∃ C, e = .returned (.tuple #[.agg (List.toArray C), .int .i64 0]) ∧ EnM w' C t ∧ Below W.heap.size W w' := by
 intro t ht W hW
 have hp5 := h.lo
 have hp := h.hi
 unfold enC at ht
 obtain ⟨c, hc, rfl⟩ := List.mem_map.1 ht
 obtain ⟨h1, h2, h3, _, _, h6⟩ := h.cls c hc
 have hl : (curveName p c.1 c.2).length ≤ 80 := by
  have k1 := dg_len p
  have k2 := dg_len c.1
  have k3 := dg_len c.2
  unfold curveName
  simp; omega
 exact MakeE_calls (curveName p c.1 c.2) 248 7 [(false, p), (false, c.1), (false, c.2)] false (numC p c.1 c.2 p) W (obj_e p c.1 c.2 hp5 (by omega) h.pr h1 h2 h3 W (hG.kept hW)) (curM p h c.1 c.2 h1 h2 h3 h6) hl (enters_of func248 (by kernel_rfl) rfl)
def shH (p : Nat) : List En := (enH p).foldl insE []
theorem shT_eq (p : Nat) : shT p = (enC p).foldl insE (shH p) := by unfold shT shH; rw [List.foldl_append]
theorem enH_len (p : Nat) : (enH p).length = 4 * p + 1 := by simp [enH]
theorem shelvedH (p : Nat) (h : TF p) (w : World) (hG : Glob w) (hT : Tab w) :
  Calls prog 4 #[.agg #[.slice none 0 0], tb 2 (0 : Nat) (4 * p : Nat) (1 : Nat)] w fun e w' => ∃ v' hs', e = .returned (.tuple #[.agg #[v'], .bool true]) ∧ ShA w' v' hs' (shH p) ∧ Below w.heap.size w w' :=
 shelved_calls (2, (0 : Nat), (4 * p : Nat), (1 : Nat)) (enH p) _ [] [] w (ShA.nil w) (by have := h.hi; rw [enH_len]; simp; omega)
  (fun W hW => objH_calls p h.hi W (hT.kept hW)) (makeH p h w hG) (by
   have := h.nd
   rw [List.map_append] at this
   simpa using (List.nodup_append.1 this).1)
theorem shelvedC (p : Nat) (h : TF p) (v : Value) (hs : List (List Value)) (w : World) (hG : Glob w) (hT : Tab w) (hS : ShA w v hs (shH p)) :
  Calls prog 4 #[.agg #[v], tb 3 (p : Nat) (p : Nat) (1 : Nat)] w fun e w' => ∃ v' hs', e = .returned (.tuple #[.agg #[v'], .bool true]) ∧ ShA w' v' hs' (shT p) ∧ Below w.heap.size w w' := by
 rw [shT_eq]
 have hlen : (shH p).length = 4 * p + 1 := by unfold shH; rw [foldl_len, enH_len]; simp
 refine shelved_calls (3, (p : Nat), (p : Nat), (1 : Nat)) (enC p) v hs (shH p) w hS (by have h1 := h.hi; have h2 := h.len; rw [hlen]; simp [enC]; omega)
  (fun W hW => objC_calls p h.lo h.hi h.pr W (hT.kept hW)) (makeC p h w hG) ?_
 have := h.nd
 rw [List.map_append] at this ⊢
 rw [List.nodup_append] at this ⊢
 have hm : ∀ x, x ∈ (shH p).map (·.1) ↔ x ∈ (enH p).map (·.1) := fun x => by
  simp only [List.mem_map]
  constructor
  ·rintro ⟨t, ht, rfl⟩
   rcases (shelf_mem (enH p) [] t).1 ht with h | h
   ·cases h
   ·exact ⟨t, h, rfl⟩
  ·rintro ⟨t, ht, rfl⟩
   exact ⟨t, (shelf_mem (enH p) [] t).2 (.inr ht), rfl⟩
 refine ⟨?_, this.2.1, fun a ha b hb => this.2.2 a ((hm a).1 ha) b hb⟩
 have hp : ∀ (l T : List En), ((T ++ l).map (·.1)).Nodup → ((l.foldl insE T).map (·.1)).Nodup := by
  intro l
  induction l with
  | nil => intro T h; simpa using h
  | cons a l ih =>
   intro T h
   rw [List.foldl_cons]
   refine ih _ ?_
   have hperm : (insE T a ++ l).Perm (T ++ a :: l) := by
    unfold insE
    have h1 : (T.take (plE T a) ++ a :: T.drop (plE T a)).Perm (T ++ [a]) := by
     conv => rhs; rw [← List.take_append_drop (plE T a) T]
     rw [List.append_assoc]
     exact List.Perm.append_left _ (List.perm_append_comm (l₁ := [a]))
    have := h1.append_right l
    simpa using this
   exact ((hperm.map (·.1)).nodup_iff).2 h
 exact hp (enH p) [] (by simpa using this.1)
end Go.Proofs.YtpmklccphbklaaaGreatDoor
