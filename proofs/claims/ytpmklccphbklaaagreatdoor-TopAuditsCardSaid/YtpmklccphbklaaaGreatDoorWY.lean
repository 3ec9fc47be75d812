/- TopAudits: the audits of the mean and of a trace, made by the program. -/
import Derived.Test.YtpmklccphbklaaaGreatDoorWV
import Derived.Test.YtpmklccphbklaaaGreatDoorWX
namespace Go.Proofs.YtpmklccphbklaaaGreatDoor
open Go.RowKit Go.Shelf Go.Proofs.Tryz
set_option maxRecDepth 100000
set_option maxHeartbeats 8000000
def AuM (W : World) (c : List Value) (a : Au) : Prop := ∃ v m1 m2, c = [v, .bool a.2.1, m1, .bool false, m2] ∧ PtsM W v a.1 ∧ NV W m1 a.2.2.1 ∧ NV W m2 a.2.2.2
theorem AuM.tr {P : TypeId → Prop} {W Y : World} (h : TrP P W Y) (hp : P 152) (hq : P 52) {c : List Value} {a : Au} (e : AuM W c a) : AuM Y c a :=
 let ⟨v, m1, m2, e0, h1, h2, h3⟩ := e
 ⟨v, m1, m2, e0, h1.tr h hp hq, h.nv hp h2, h.nv hp h3⟩
theorem AuM.kept {W W' : World} {c : List Value} {a : Au} (h : AuM W c a) (hb : Below W.heap.size W W') : AuM W' c a := h.tr (trP_below hb) trivial trivial
theorem AuM.len {W : World} {c : List Value} {a : Au} (h : AuM W c a) : c.length = 5 := by obtain ⟨_, _, _, rfl, _⟩ := h; rfl
theorem PtsM.slice {W : World} {v : Value} {l : List Pt} (h : PtsM W v l) : ∃ A cap, v = .slice A l.length cap := by
 obtain ⟨_, A, cap, _, e, _⟩ := h
 exact ⟨A, cap, e⟩
theorem AuM.one {W : World} {c : List Value} {a : Au} (h : AuM W c a) : ∀ u ∈ c, u.oneCell' = true := by
 obtain ⟨v, m1, m2, rfl, h1, h2, h3⟩ := h
 obtain ⟨_, _, rfl⟩ := h1.slice
 obtain ⟨_, _, rfl⟩ := h2.slice
 obtain ⟨_, _, rfl⟩ := h3.slice
 simp [Value.oneCell']
def RetAu (w : World) (a : Au) (e : Ending) (w' : World) : Prop := ∃ c, e = .returned (.tuple #[.agg (List.toArray c), .int .i64 0]) ∧ AuM w' c a ∧ Below w.heap.size w w'
theorem Mean_calls (p : Nat) (h : TF p) (w : World) : Calls prog 6 #[.int .i64 p] w (RetAu w (meanA p)) := by
 have hp5 := h.lo
 have hp13 := h.hi
 have HK := Hi (fun W => tknown_calls p W (by omega) hp5 h.pr)
 have HC : Hid (∀ W, Calls prog 19 #[.int .i64 p, .func (.func 20) #[] #[]] W fun e w' => ∃ v, e = .returned (.tuple #[v, .int .i64 0]) ∧ PtsO w' W.heap.size v (meanP p) ∧ Below W.heap.size W w') := Lib.hid fun W =>
  curvesP_calls p 20 #[] (fun c => ⟨curveName p c.1 c.2, (false, 1, autQ p c.1 c.2), false, (false, 0)⟩) W hp5 (by omega) h.pr h.ok1 h.ne (by have := h.len; omega) (enters_of func20 (by kernel_rfl) rfl) (fun c hc X _ => by
   obtain ⟨h1, h2, h3, h4, h5, _⟩ := h.cls c hc
   exact Mean1_calls p c.1 c.2 X hp5 (by omega) h.pr h1 h2 h3 (by omega))
 have hb : p * (p + 1) ≤ 182 := Nat.le_trans (Nat.mul_le_mul hp13 (show p + 1 ≤ 14 by omega)) (by decide)
 have HR : Hid (∀ W, Calls prog 22 #[.int .i64 ((p : Int) * ((p : Int) + 1)), .int .i64 1] W (RetQ W (false, p * (p + 1), 1))) := Lib.hid fun W => by
  have := ratio_calls false (p * (p + 1)) 1 W (fun h => by cases h) (by omega) (by omega)
  rwa [show sI false (p * (p + 1)) = (p : Int) * ((p : Int) + 1) by simp [sI]] at this
 have hbi : 0 ≤ (p : Int) * ((p : Int) + 1) ∧ (p : Int) * ((p : Int) + 1) ≤ 182 := by
  have : ((p * (p + 1) : Nat) : Int) = (p : Int) * ((p : Int) + 1) := by push_cast; rfl
  omega
 have h199 : decide ((199 : Int) < (p : Int)) = false := by simp; omega
 have q2 := Bk.new w 45 zAudit
 have hB0 := (Below.refl w.heap.size w).alloc (Nat.le_refl _) (.cells zAudit 45)
 unfold meanA
 clear h hb
 generalize p * (p + 1) = z at *
 generalize meanP p = l at *
 go_enter func6, ntmps6
 go_wp2_with fail
 generalize w.alloc _ = W at *
 refine (HK.out _).mono ?_
 rintro e w1 ⟨rfl, rfl⟩
 go_wp2_with fail
 refine (HC.out _).mono ?_
 rintro e w2 ⟨v, rfl, hP, hB2⟩
 have hP := hP.read
 obtain ⟨A, cap, rfl⟩ := hP.slice
 have q2 := q2.kept hB2
 have hB := hB0.trans (hB2.mono hB0.size)
 clear hB0 hB2
 go_wp2_with fail
 refine (HR.out _).mono ?_
 rintro e w3 ⟨m1, m2, rfl, h1, h2, hB3⟩
 obtain ⟨A1, c1, rfl⟩ := h1.slice
 obtain ⟨A2, c2, rfl⟩ := h2.slice
 have q2 := q2.kept hB3
 have hP := hP.kept hB3
 have hB := hB.trans (hB3.mono hB.size)
 clear hB3
 dsimp only at h1 h2 ⊢
 have hbd := run_bAudit A l.length cap false (.slice A1 (wordsOf z).length c1) (.slice A2 (wordsOf 1).length c2)
 have hX := below_setRow hB (Nat.le_refl _) #[.slice A l.length cap, .bool false, .slice A1 (wordsOf z).length c1, .bool false, .slice A2 (wordsOf 1).length c2]
 have qX := setRow_bk q2 #[.slice A l.length cap, .bool false, .slice A1 (wordsOf z).length c1, .bool false, .slice A2 (wordsOf 1).length c2]
 have tX := trP_row2 q2 #[.slice A l.length cap, .bool false, .slice A1 (wordsOf z).length c1, .bool false, .slice A2 (wordsOf 1).length c2]
 have HF := Hi (And.intro (hP.tr tX (by decide) (by decide)) (And.intro (tX.nv (by decide) h1) (tX.nv (by decide) h2)))
 clear h1 h2 tX hP
 go_wp2_with (refine storeW A_audit rfl _ _ rfl rfl _ rfl #[.slice A l.length cap, .bool false, .slice A1 (wordsOf z).length c1, .bool false, .slice A2 (wordsOf 1).length c2] rfl rfl _ q2 rfl (by simp [Value.oneCell']) ?_)
 exact bodyPost_end (v := .tuple #[.agg #[.slice A l.length cap, .bool false, .slice A1 (wordsOf z).length c1, .bool false, .slice A2 (wordsOf 1).length c2], .int .i64 0]) (res_box2 (i := 2) (j := 3) (T := 45) (by kernel_rfl) A_audit rfl rfl qX rfl) rfl ⟨_, rfl, ⟨_, _, _, rfl, HF.out.1, HF.out.2.1, HF.out.2.2⟩, hX⟩
theorem Trace_calls (p : Nat) (h : TF p) (t : Int) (ht : t ∈ trs p) (w : World) : Calls prog 8 #[.int .i64 p, .int .i64 t] w (RetAu w (trA p t)) := by
 have hp5 := h.lo
 have hp13 := h.hi
 have ht' : -7 ≤ t ∧ t ≤ 7 ∧ t * t < 4 * (p : Int) := by
  unfold trs at ht
  rw [List.mem_filter, List.mem_map] at ht
  obtain ⟨⟨i, hi, rfl⟩, h2⟩ := ht
  rw [List.mem_range] at hi
  exact ⟨by omega, by omega, by simpa using h2⟩
 have h0 : 0 ≤ t * t := by
  rcases Int.le_total 0 t with h | h
  ·exact Int.mul_nonneg h h
  ·exact Int.mul_nonneg_of_nonpos_of_nonpos h h
 obtain ⟨z, hz⟩ : ∃ z : Nat, (p : Int) + 1 - t = (z : Nat) ∧ z = ((p : Int) + 1 - t).toNat := ⟨_, by
  have h9 : t ≤ p + 1 := by
   rcases (show t = 7 ∨ t ≤ 6 by omega) with h | h
   ·rw [h] at ht'
    omega
   ·omega
  omega, rfl⟩
 obtain ⟨n, hn, hn'⟩ : ∃ n : Nat, 4 * (p : Int) - t * t = (n : Nat) ∧ n = (4 * (p : Int) - t * t).toNat := ⟨_, by omega, rfl⟩
 have hn100 : n < 100 := by omega
 have HK := Hi (fun W => tknown_calls p W (by omega) hp5 h.pr)
 have HC : Hid (∀ W bp bt, Bk W bp 3 #[.int .i64 p] → Bk W bt 3 #[.int .i64 t] → Calls prog 19 #[.int .i64 p, .func (.func 27) #[] #[.pointer (some ⟨bp, 0, none⟩), .pointer (some ⟨bt, 0, none⟩)]] W fun e w' => ∃ v, e = .returned (.tuple #[v, .int .i64 0]) ∧ PtsO w' W.heap.size v ((classesL p).map fun c => ⟨curveName p c.1 c.2, (false, 1, autQ p c.1 c.2), true, (false, z)⟩) ∧ Below W.heap.size W w') := Lib.hid fun W bp bt qp qt =>
  curvesP_calls p 27 #[.pointer (some ⟨bp, 0, none⟩), .pointer (some ⟨bt, 0, none⟩)] (fun c => ⟨curveName p c.1 c.2, (false, 1, autQ p c.1 c.2), true, (false, z)⟩) W hp5 (by omega) h.pr h.ok1 h.ne (by have := h.len; omega) (enters_of func27 (by kernel_rfl) rfl) (fun c hc X hX => by
   obtain ⟨h1, h2, h3, h4, h5, _⟩ := h.cls c hc
   exact Trace1_calls p c.1 c.2 z bp bt t X (qp.kept hX) (qt.kept hX) (by omega) hz.1 hp5 (by omega) h.pr h1 h2 h3 (by omega))
 have HI := Hi (fun W => Itoa_small n hn100 W)
 have HR1 : Hid (∀ W, Calls prog 22 #[.int .i64 (-1), .int .i64 24] W (RetQ W (true, 1, 24))) := Lib.hid fun W => ratio_calls true 1 24 W (fun _ => by omega) (by omega) (by omega)
 have HR2 : Hid (∀ W, Calls prog 22 #[.int .i64 0, .int .i64 1] W (RetQ W (false, 0, 1))) := Lib.hid fun W => ratio_calls false 0 1 W (fun h => by cases h) (by omega) (by omega)
 have hE : trA p t = (((classesL p).map fun c => (⟨curveName p c.1 c.2, (false, 1, autQ p c.1 c.2), true, (false, z)⟩ : Pt)) ++ [⟨hName n, (true, 1, 24), false, (false, 0)⟩], (false, 0, 1)) := by unfold trA trP; rw [← hz.2, ← hn']
 rw [hE]
 have HL := Hi (show ((classesL p).map fun c => (⟨curveName p c.1 c.2, (false, 1, autQ p c.1 c.2), true, (false, z)⟩ : Pt)).length ≤ 1000 by rw [List.length_map]; have := h.len; omega)
 generalize ((classesL p).map fun c => (⟨curveName p c.1 c.2, (false, 1, autQ p c.1 c.2), true, (false, z)⟩ : Pt)) = l at *
 have htt := ht'.2.2
 have ht1 := ht'.1
 have ht2 := ht'.2.1
 clear h ht hE hz hn' ht'
 have qp := ((Bk.new w 3 #[.int .i64 p]).alloc (.cells #[.int .i64 t] 3)).alloc (.cells zAudit 45)
 have qt := (Bk.new (w.alloc (.cells #[.int .i64 p] 3)) 3 #[.int .i64 t]).alloc (.cells zAudit 45)
 have q4 := Bk.new ((w.alloc (.cells #[.int .i64 p] 3)).alloc (.cells #[.int .i64 t] 3)) 45 zAudit
 simp only [World.size_alloc] at qt q4
 have hB0 : Below w.heap.size w (((w.alloc (.cells #[.int .i64 p] 3)).alloc (.cells #[.int .i64 t] 3)).alloc (.cells zAudit 45)) := (((Below.refl _ _).alloc (Nat.le_refl _) _).alloc (by simp) _).alloc (by simp; omega) _
 go_enter func8, ntmps8
 go_wp2_with fail
 generalize ((w.alloc _).alloc _).alloc _ = W at *
 have c0 := qp.cell 0
 have d0 := qt.cell 0
 have l0 := qp.lt
 have l1 := qt.lt
 go_wp2_with fail
 refine (HK.out _).mono ?_
 rintro e w1 ⟨rfl, rfl⟩
 go_wp2_with fail
 refine (HC.out _ _ _ qp qt).mono ?_
 rintro e w2 ⟨v, rfl, hP, hB2⟩
 have qp := qp.kept hB2
 have qt := qt.kept hB2
 have q4 := q4.kept hB2
 have hB := hB0.trans (hB2.mono hB0.size)
 have hs1 := hB2.size
 have hs0 := hB0.size
 clear hB0 hB2 c0 d0 l0 l1
 have c0 := qp.cell 0
 have d0 := qt.cell 0
 have l0 := qp.lt
 have l1 := qt.lt
 obtain ⟨hs, hR, hown⟩ := hP
 obtain ⟨A, k, cap, rfl⟩ := own_slice hown
 have HI' : Hid (∀ W, Calls prog 29 #[.int .i64 (4 * (p : Int) - t * t)] W fun e w' => e = .returned (st (dg n)) ∧ W = w') := Hi (fun W => by rw [hn]; exact HI.out W)
 have hdl := dg_len n
 have hnm : (⟨#[104, 58]⟩ ++ ⟨(dg n).toArray⟩ : ByteArray) = ⟨(hName n).toArray⟩ := ba_app [104, 58] (dg n)
 clear HI hn
 go_wp2_with fail
 refine (HI'.out _).mono ?_
 rintro e w3 ⟨rfl, rfl⟩
 go_wp2_with fail
 refine (HR1.out _).mono ?_
 rintro e w3 ⟨m1, m2, rfl, h1, h2, hB3⟩
 obtain ⟨A1, k1, rfl⟩ := h1.slice
 obtain ⟨A2, k2, rfl⟩ := h2.slice
 have q4 := q4.kept hB3
 have hown := ownsRow_kept hown hB3
 have hR := hR.map (fun a x hx => hx.kept hB3)
 have hs2 := hB3.size
 have hB := hB.trans (hB3.mono hB.size)
 clear hB3 qp qt c0 d0 l0 l1
 dsimp only at h1 h2 ⊢
 have hPt : PtM w3 [st (hName n), .int .i64 0, .bool true, .slice A1 (wordsOf 1).length k1, .bool false, .slice A2 (wordsOf 24).length k2, .bool false, .bool false, .slice none 0 0] ⟨hName n, (true, 1, 24), false, (false, 0)⟩ := ⟨_, _, _, rfl, h1, h2, NV.nil _ _ _⟩
 have hl9 := hPt.len
 have hone := hPt.one
 have hal2 := (Below.refl w3.heap.size w3).alloc (Nat.le_refl _) (.cells #[st (hName n), .int .i64 0, .bool true, .slice A1 (wordsOf 1).length k1, .bool false, .slice A2 (wordsOf 24).length k2, .bool false, .bool false, .slice none 0 0] 52)
 have hown2 := ownsRow_kept hown hal2
 have hR2 := Hi (hR.map (fun a x hx => hx.kept hal2))
 have hPt2 := Hi (hPt.kept hal2)
 have HNw := Hi (cells_new w3 [st (hName n), .int .i64 0, .bool true, .slice A1 (wordsOf 1).length k1, .bool false, .slice A2 (wordsOf 24).length k2, .bool false, .bool false, .slice none 0 0] 52)
 have q4 := q4.kept hal2
 have hB2 := hB.trans (hal2.mono hB.size)
 have hs3 := hal2.size
 clear h1 h2 hown hR hPt
 have hln : l.length ≤ 1000 := HL.out
 go_upto_region 7 with ((at_builtin; refine app T_part rfl _ _ rfl W.heap.size (.slice A k cap) l.length hs.flatten rfl hown2 w3.heap.size 0 1 1 [st (hName n), .int .i64 0, .bool true, .slice A1 (wordsOf 1).length k1, .bool false, .slice A2 (wordsOf 24).length k2, .bool false, .bool false, .slice none 0 0] rfl (by simp) HNw.out hone (by omega) (by omega) (by simp; omega) ?_; intro v' w4 hown' hgrow hnil))
 have tG := own_trp hown2 hgrow
 have q4 := tG _ _ _ (by decide) q4
 have hP : PtsO w4 W.heap.size v' (l ++ [⟨hName n, (true, 1, 24), false, (false, 0)⟩]) := PtsO.snoc (hR2.out.map fun a x hx => hx.tr tG (by decide)) (hPt2.out.tr tG (by decide)) hown'
 have hB4 : Below w.heap.size w w4 := hB2.grown hgrow (by have := hB2.size; exact this) (fun j hj => Nat.le_trans hs0 (hown2.lt j hj).1)
 clear hown' hgrow hnil tG hown2 hR2 hPt2 HNw hs1 hs2 hs3 hB hB2
 have hP := hP.read
 obtain ⟨A', cap', rfl⟩ := hP.slice
 generalize l ++ [(⟨hName n, (true, 1, 24), false, (false, 0)⟩ : Pt)] = l2 at *
 go_wp2_with fail
 refine (HR2.out _).mono ?_
 rintro e w5 ⟨m3, m4, rfl, h3, h4, hB5⟩
 obtain ⟨A3, k3, rfl⟩ := h3.slice
 obtain ⟨A4, k4, rfl⟩ := h4.slice
 have q4 := q4.kept hB5
 have hP := hP.kept hB5
 have hB := hB4.trans (hB5.mono hB4.size)
 clear hB5 hB4
 dsimp only at h3 h4 ⊢
 have hbd := run_bAudit A' l2.length cap' false (.slice A3 (wordsOf 0).length k3) (.slice A4 (wordsOf 1).length k4)
 have hX := below_setRow hB (show w.heap.size ≤ w.heap.size + 1 + 1 by omega) #[.slice A' l2.length cap', .bool false, .slice A3 (wordsOf 0).length k3, .bool false, .slice A4 (wordsOf 1).length k4]
 have qX := setRow_bk q4 #[.slice A' l2.length cap', .bool false, .slice A3 (wordsOf 0).length k3, .bool false, .slice A4 (wordsOf 1).length k4]
 have tX := trP_row2 q4 #[.slice A' l2.length cap', .bool false, .slice A3 (wordsOf 0).length k3, .bool false, .slice A4 (wordsOf 1).length k4]
 have HF := Hi (And.intro (hP.tr tX (by decide) (by decide)) (And.intro (tX.nv (by decide) h3) (tX.nv (by decide) h4)))
 clear h3 h4 tX hP
 go_wp2_with (refine storeW A_audit rfl _ _ rfl rfl _ rfl #[.slice A' l2.length cap', .bool false, .slice A3 (wordsOf 0).length k3, .bool false, .slice A4 (wordsOf 1).length k4] rfl rfl _ q4 rfl (by simp [Value.oneCell']) ?_)
 exact bodyPost_end (v := .tuple #[.agg #[.slice A' l2.length cap', .bool false, .slice A3 (wordsOf 0).length k3, .bool false, .slice A4 (wordsOf 1).length k4], .int .i64 0]) (res_box2 (i := 4) (j := 5) (T := 45) (by kernel_rfl) A_audit rfl rfl qX rfl) rfl ⟨_, rfl, ⟨_, _, _, rfl, HF.out.1, HF.out.2.1, HF.out.2.2⟩, hX⟩
end Go.Proofs.YtpmklccphbklaaaGreatDoor
