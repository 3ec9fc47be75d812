/- Ranges of numbers of any size with a sign; names of objects of the kin. -/
import Derived.Test.YthjilnnmahcnpaaGreatDoorWMC
namespace Go.Proofs.YthjilnnmahcnpaaGreatDoor
open Go.RowKit Go.Shelf Go.Proofs.Tryz
set_option maxRecDepth 100000
set_option maxHeartbeats 4000000
section
variable {P : Program} {md : Region.Mode} {ops : Array Oper} {Q : Exit → Act → World → Prop} {S : World → Prop}
theorem tkU (i : Nat) {oi : Oper} {f : Nat} {L : Array Bool} {a : Act} {w : World} (hi : ops[i]? = some oi) (h : wpAnyH P md ops Q S f (L.setIfInBounds i true) (a.put oi.dst undef) w)
  (hs : Region.noSelect ops = true := by kernel_rfl) (hf : Region.free md ops L i = true := by kernel_rfl) (hr : (Region.ready md ops L).contains i = true := by kernel_rfl) (hQ : ∀ c a w, Q (.panic c) (a.put oi.dst undef) w → Q (.panic c) a w := by exact fun _ _ _ h => h) (hg : Region.wanted oi (yielded ops a.tmps) = false := by rfl) (hS : S w := by assumption) : wpAnyH P md ops Q S (f + 1) L a w :=
 wpAnyH_take hi hs hf hr hQ (.inr ⟨hg, rfl⟩) hS h
end
theorem sI_eq (sg : Bool) (n : Nat) : (if sg then -(n : Int) else n) = sI sg n := rfl
theorem cmpS_ge (s : Bool) (x : Nat) (t : Bool) (y : Nat) : decide (0 ≤ cmpS s x t y) = decide (sI t y ≤ sI s x) := by
  unfold cmpS Lib.compareInt
  rcases Int.lt_trichotomy (sI s x) (sI t y) with h | h | h
  · rw [if_pos h]; simp; omega
  · rw [if_neg (by omega), if_neg (by omega)]; simp; omega
  · rw [if_neg (by omega), if_pos h]; simp; omega
theorem cmpS_le (s : Bool) (x : Nat) (t : Bool) (y : Nat) : decide (cmpS s x t y ≤ 0) = decide (sI s x ≤ sI t y) := by
  unfold cmpS Lib.compareInt
  rcases Int.lt_trichotomy (sI s x) (sI t y) with h | h | h
  · rw [if_pos h]; simp; omega
  · rw [if_neg (by omega), if_neg (by omega)]; simp; omega
  · rw [if_neg (by omega), if_pos h]; simp; omega
theorem eofS_calls (sg : Bool) (n : Nat) (w : World) (h0 : sg = true → 0 < n) (hn : n < 4294967296) : Calls prog 139 #[.int .i64 (sI sg n)] w (RetS w sg n) := by
  have q0 := Bk.new w 42 #[.bool false, .slice none 0 0]
  have hB0 := (Below.refl w.heap.size w).alloc (Nat.le_refl _) (.cells #[.bool false, .slice none 0 0] 42)
  have HO := Hi (fun W => pOfS_calls sg n W h0 hn)
  rw [sI_eq] at HO
  generalize sI sg n = x at *
  go_enter func139, ntmps139
  go_wp2_with fail
  refine (HO.out _).mono ?_
  rintro e w1 ⟨m, rfl, hI, hB1⟩
  obtain ⟨A, k, c, rfl⟩ := hI.slice
  have q1 := q0.kept hB1
  have hB := hB0.trans (hB1.mono hB0.size)
  have c0 := q1.cell 0
  have c1 := q1.cell 1
  have f0 := q1.frozen 0
  have f1 := q1.frozen 1
  have hl := q1.lt
  dsimp only
  go_wp2_with fail
  have q2 := (q1.put 0 (.bool sg)).put 1 (.slice A k c)
  have x0 := q2.cell 0
  have x1 := q2.cell 1
  refine bodyPost_ret (v := .agg #[.bool sg, .slice A k c]) (by simp [results, results139, go_sem, x0, x1]) rfl ⟨_, rfl, ?_, (hB.setCell (by simp) _).setCell (by simp) _⟩
  have t0 := trP_set q1 0 (.bool sg)
  have t1 := trP_set (q1.put 0 (.bool sg)) 1 (.slice A k c)
  exact t1.iv (by decide) (t0.iv (by decide) hI)
def inI (s : Bool) (x : Nat) (lo hi : Int) : Bool := decide (lo ≤ sI s x ∧ sI s x ≤ hi)
theorem withinA_calls (s : Bool) (x n : Nat) (ls : Bool) (lo : Nat) (hs : Bool) (hi : Nat) (m : Value) (w : World) (h : IV w m x) (hsx : s = true → 0 < x) (hx : x < 4294967296 ^ n) (hn : n ≤ 998) (hls : ls = true → 0 < lo) (hhs : hs = true → 0 < hi) (hl : lo < 4294967296) (hh : hi < 4294967296) :
    Calls prog 167 #[.agg #[.bool s, m], .int .i64 (sI ls lo), .int .i64 (sI hs hi)] w fun e w' => e = .returned (.bool (inI s x (sI ls lo) (sI hs hi))) ∧ Below w.heap.size w w' := by
  have HC1 := Hi (fun mb W (h1 : Below w.heap.size w W) (hb : IV W mb lo) => ICmpA_calls s x ls lo n 1 m mb W (h.kept h1) hb hsx hls hx (by simpa using hl) (by omega) (by omega))
  have HC2 := Hi (fun mb W (h1 : Below w.heap.size w W) (hb : IV W mb hi) => ICmpA_calls s x hs hi n 1 m mb W (h.kept h1) hb hsx hhs hx (by simpa using hh) (by omega) (by omega))
  have HO1 := Hi (fun W => eofS_calls ls lo W hls hl)
  have HO2 := Hi (fun W => eofS_calls hs hi W hhs hh)
  have hge := cmpS_ge s x ls lo
  have hle := cmpS_le s x hs hi
  obtain ⟨A, nx, c, rfl⟩ := h.slice
  have q := Bk.new w 42 #[.bool s, .slice A nx c]
  have hB0 := (Below.refl w.heap.size w).alloc (Nat.le_refl _) (.cells #[.bool s, .slice A nx c] 42)
  unfold inI
  by_cases h1 : sI ls lo ≤ sI s x
  · rw [decide_eq_true h1] at hge
    have HR := Hi (show decide (cmpS s x hs hi ≤ 0) = decide (sI ls lo ≤ sI s x ∧ sI s x ≤ sI hs hi) by rw [hle]; simp [h1])
    clear h hsx hx hls hhs hl hh hle h1
    generalize decide (sI ls lo ≤ sI s x ∧ sI s x ≤ sI hs hi) = rr at *
    generalize cmpS s x ls lo = k1 at *
    generalize cmpS s x hs hi = k2 at *
    generalize sI ls lo = v1 at *
    generalize sI hs hi = v2 at *
    go_enter func167, ntmps167
    go_upto_region 1 with (fail)
    generalize w.alloc _ = W at *
    have d0 := q.cell 0
    have d1 := q.cell 1
    have l2 := q.lt
    have HB := Lib.hid hB0
    clear hB0
    refine rgS W (fun hN => ?_)
    refine tkH 0 rfl ?_; go_simp
    refine tkH 1 rfl ?_; go_simp
    generalize hwd : W.drew = wd at *
    clear hwd
    refine rdH 2 rfl (fun K hK => ?_)
    go_simp
    refine (HO1.out _).mono ?_
    rintro e w1 ⟨mg, rfl, hI1, hb1⟩
    obtain ⟨A3, n3, c3, rfl⟩ := hI1.slice
    refine hK.out _ _ (sk_step hN hb1) (fun hN => ?_)
    clear hK K hb1
    go_simp
    refine rdH 3 rfl (fun K hK => ?_)
    go_simp
    refine (HC1.out _ _ (gskBw HB.out hN) hI1).mono ?_
    rintro e w2 ⟨rfl, hb2⟩
    refine hK.out _ _ (sk_step hN hb2) (fun hN => ?_)
    clear hK K hb2 hI1
    go_simp
    refine tkH 4 rfl ?_; go_simp
    refine tkH 5 rfl ?_; go_simp
    refine tkH 6 rfl ?_; go_simp
    refine tkH 7 rfl ?_; go_simp
    refine rdH 8 rfl (fun K hK => ?_)
    go_simp
    refine (HO2.out _).mono ?_
    rintro e w3 ⟨mg, rfl, hI1, hb1⟩
    obtain ⟨A3, n3, c3, rfl⟩ := hI1.slice
    refine hK.out _ _ (sk_step hN hb1) (fun hN => ?_)
    clear hK K hb1
    go_simp
    refine rdH 9 rfl (fun K hK => ?_)
    go_simp
    refine (HC2.out _ _ (gskBw HB.out hN) hI1).mono ?_
    rintro e w4 ⟨rfl, hb2⟩
    refine hK.out _ _ (sk_step hN hb2) (fun hN => ?_)
    clear hK K hb2 hI1
    go_simp
    refine tkH 10 rfl ?_; go_simp
    refine tkH 11 rfl ?_; go_simp
    refine tkH 12 rfl ?_; go_simp
    refine Hn ?_
    have HF := Hi (HB.out.trans (hN.2.mono HB.out.size))
    clear hN
    go_wp2_with fail
    go_ret
    exact ⟨ret_bool HR.out, HF.out⟩
  · rw [decide_eq_false h1] at hge
    have HR := Hi (show false = decide (sI ls lo ≤ sI s x ∧ sI s x ≤ sI hs hi) by simp [h1])
    clear h hsx hx hls hhs hl hh hle h1 HC2 HO2
    generalize decide (sI ls lo ≤ sI s x ∧ sI s x ≤ sI hs hi) = rr at *
    generalize cmpS s x ls lo = k1 at *
    generalize sI ls lo = v1 at *
    generalize sI hs hi = v2 at *
    go_enter func167, ntmps167
    go_upto_region 1 with (fail)
    generalize w.alloc _ = W at *
    have d0 := q.cell 0
    have d1 := q.cell 1
    have l2 := q.lt
    have HB := Lib.hid hB0
    clear hB0
    refine rgS W (fun hN => ?_)
    refine tkH 0 rfl ?_; go_simp
    refine tkH 1 rfl ?_; go_simp
    generalize hwd : W.drew = wd at *
    clear hwd
    refine rdH 2 rfl (fun K hK => ?_)
    go_simp
    refine (HO1.out _).mono ?_
    rintro e w1 ⟨mg, rfl, hI1, hb1⟩
    obtain ⟨A3, n3, c3, rfl⟩ := hI1.slice
    refine hK.out _ _ (sk_step hN hb1) (fun hN => ?_)
    clear hK K hb1
    go_simp
    refine rdH 3 rfl (fun K hK => ?_)
    go_simp
    refine (HC1.out _ _ (gskBw HB.out hN) hI1).mono ?_
    rintro e w2 ⟨rfl, hb2⟩
    refine hK.out _ _ (sk_step hN hb2) (fun hN => ?_)
    clear hK K hb2 hI1
    go_simp
    refine tkH 4 rfl ?_; go_simp
    refine tkH 5 rfl ?_; go_simp
    refine tkU 6 rfl ?_; go_simp
    refine tkU 7 rfl ?_; go_simp
    refine tkU 8 rfl ?_; go_simp
    refine tkU 9 rfl ?_; go_simp
    refine tkU 10 rfl ?_; go_simp
    refine tkH 11 rfl ?_; go_simp
    refine tkH 12 rfl ?_; go_simp
    refine Hn ?_
    have HF := Hi (HB.out.trans (hN.2.mono HB.out.size))
    clear hN
    go_wp2_with fail
    go_ret
    exact ⟨ret_bool HR.out, HF.out⟩
def ObjFn (f : Nat) (vs : List (Bool × Nat)) (b : Bool) : Prop := ∀ g cap W, IntsB W g vs cap → Calls prog f #[.slice (some ⟨g, 0, none⟩) vs.length cap] W fun e w' => e = .returned (.bool b) ∧ Below W.heap.size W w'
theorem fact_fn (s : Bool) (z n : Nat) (hs : s = true → 0 < z) (hz : z < 4294967296 ^ n) : ObjFn 145 [(s, z)] (decide (0 < sgI s z)) := by
  intro g cap W hI
  obtain ⟨m, e0, e1, hm, hgl⟩ := hI.at (j := 0) (v := (s, z)) rfl
  obtain ⟨A, k, c, rfl⟩ := hm.slice
  simp only [Nat.zero_mul, Nat.zero_add] at e0 e1
  have hcap := hI.2
  have HS := Hi (gSignA_calls s z n (.slice A k c) W hm hs hz)
  generalize sgI s z = sg at *
  clear hI hm
  rw [show [(s, z)].length = 1 from rfl]
  go_enter func145, ntmps145
  go_wp2_with fail
  refine HS.out.mono ?_
  rintro e w1 ⟨rfl, hB⟩
  go_wp2_with fail
  go_ret
  exact ⟨ret_bool rfl, hB⟩
theorem hurw_fn (s : Bool) (z n : Nat) (hs : s = true → 0 < z) (hz : z < 4294967296 ^ n) (hn : n ≤ 998) : ObjFn 166 [(s, z)] (inI s z 0 4194304) := by
  intro g cap W hI
  obtain ⟨m, e0, e1, hm, hgl⟩ := hI.at (j := 0) (v := (s, z)) rfl
  obtain ⟨A, k, c, rfl⟩ := hm.slice
  simp only [Nat.zero_mul, Nat.zero_add] at e0 e1
  have hcap := hI.2
  have HS := Hi (withinA_calls s z n false 0 false 4194304 (.slice A k c) W hm hs hz hn (by simp) (by simp) (by omega) (by omega))
  rw [show sI false 0 = 0 from rfl, show sI false 4194304 = 4194304 from rfl] at HS
  generalize inI s z 0 4194304 = r at *
  clear hI hm
  rw [show [(s, z)].length = 1 from rfl]
  go_enter func166, ntmps166
  go_wp2_with fail
  refine HS.out.mono ?_
  rintro e w1 ⟨rfl, hB⟩
  go_wp2_with fail
  go_ret
  exact ⟨rfl, hB⟩
theorem prime_fn (s : Bool) (z n : Nat) (hs : s = true → 0 < z) (hz : z < 4294967296 ^ n) (hn : n ≤ 998) : ObjFn 137 [(s, z)] (decide (2 ≤ sI s z)) := by
  intro g cap W hI
  obtain ⟨m, e0, e1, hm, hgl⟩ := hI.at (j := 0) (v := (s, z)) rfl
  obtain ⟨A, k, c, rfl⟩ := hm.slice
  simp only [Nat.zero_mul, Nat.zero_add] at e0 e1
  have hcap := hI.2
  have HO := Hi (fun W => eofS_calls false 2 W (by simp) (by omega))
  rw [show sI false 2 = 2 from rfl] at HO
  have HC := Hi (fun mb X (h1 : Below W.heap.size W X) h2 => ICmpA_calls s z false 2 n 1 (.slice A k c) mb X (hm.kept h1) h2 hs (by simp) hz (by decide) (by omega) (by omega))
  have HR := Hi (cmpS_ge s z false 2)
  rw [show sI false 2 = 2 from rfl] at HR
  generalize decide (2 ≤ sI s z) = r at *
  generalize cmpS s z false 2 = cc at *
  clear hI hm
  rw [show [(s, z)].length = 1 from rfl]
  go_enter func137, ntmps137
  go_wp2_with fail
  refine wp_normal ?_
  refine rgS W (fun hN => ?_)
  refine tkH 0 rfl ?_; go_simp
  refine tkH 1 rfl ?_; go_simp
  refine tkH 2 rfl ?_; go_simp
  refine rdH 3 rfl (fun K hK => ?_)
  go_simp
  refine (HO.out _).mono ?_
  rintro e w1 ⟨mb, rfl, hI2, hb1⟩
  obtain ⟨A2, n2, k2, rfl⟩ := hI2.slice
  refine hK.out _ _ (sk_step hN hb1) (fun hN => ?_); clear hK K; go_simp
  refine rdH 4 rfl (fun K hK => ?_)
  go_simp
  refine (HC.out _ _ hN.2 hI2).mono ?_
  rintro e w2 ⟨rfl, hb2⟩
  refine hK.out _ _ (sk_step hN hb2) (fun hN => ?_); clear hK K; go_simp
  refine tkH 5 rfl ?_; go_simp
  refine tkH 6 rfl ?_; go_simp
  refine Hn ?_
  go_wp2_with fail
  go_ret
  exact ⟨ret_bool HR.out, hN.2⟩
set_option maxRecDepth 100000
set_option maxHeartbeats 8000000
def rkO (s : Bool) (x : Nat) (t : Bool) (y : Nat) : Bool × Nat := addZ (s != s && decide (0 < x * x)) (x * x) (!(false != t && decide (0 < 4 * y)) && decide (0 < 4 * y)) (4 * y)
def rkB (s : Bool) (x : Nat) (t : Bool) (y : Nat) : Bool := inI s x (-1000) 1000 && inI t y (-1000) 1000 && (sgI t y != 0) && (sgI (rkO s x t y).1 (rkO s x t y).2 != 0)
theorem ranks_fn (s : Bool) (x : Nat) (t : Bool) (y n : Nat) (hs : s = true → 0 < x) (ht : t = true → 0 < y) (hx : x < 4294967296 ^ n) (hy : y < 4294967296 ^ n) (h1 : 1 ≤ n) (hn : n ≤ 200) : ObjFn 201 [(s, x), (t, y)] (rkB s x t y) := by
 intro g cap W hI
 obtain ⟨m, e0, e1, hm, hgl⟩ := hI.at (j := 0) (v := (s, x)) rfl
 obtain ⟨m', e2, e3, hm', _⟩ := hI.at (j := 1) (v := (t, y)) rfl
 obtain ⟨A, k, c, rfl⟩ := hm.slice
 obtain ⟨A', k', c', rfl⟩ := hm'.slice
 simp only [Nat.zero_mul, Nat.zero_add, Nat.one_mul, Nat.reduceAdd] at e0 e1 e2 e3
 have hcap := hI.2
 have h4 : 4 < 4294967296 ^ n := Nat.lt_of_lt_of_le (by decide) (Nat.pow_le_pow_right (n := 4294967296) (by omega) h1)
 have hxx := pow_mul_lt hx hx
 have h4y := pow_mul_lt h4 hy
 have HM1 := Hi (fun X (h : Below W.heap.size W X) => MulA_calls s x s x n (.slice A k c) (.slice A k c) X (hm.kept h) (hm.kept h) hx hx (by omega))
 have HO4 := Hi (fun X => eofS_calls false 4 X (by simp) (by omega))
 rw [show sI false 4 = 4 from rfl] at HO4
 have HM2 := Hi (fun m4 X (h : Below W.heap.size W X) h4' => MulA_calls false 4 t y n m4 (.slice A' k' c') X h4' (hm'.kept h) h4 hy (by omega))
 have HSb := Hi (fun ma mb X ha hb => SubA_calls (s != s && decide (0 < x * x)) (x * x) (false != t && decide (0 < 4 * y)) (4 * y) (n + n) ma mb X ha hb hxx h4y (by omega))
 have hro : (rkO s x t y).2 < 4294967296 ^ (n + n + 1) := by
  have := addZ_le (s != s && decide (0 < x * x)) (x * x) (!(false != t && decide (0 < 4 * y)) && decide (0 < 4 * y)) (4 * y)
  unfold rkO
  rw [Nat.pow_succ]
  omega
 have hrc : (rkO s x t y).1 = true → 0 < (rkO s x t y).2 := addZ_can _ _ _ _
 change Hid (∀ (ma mb : Value) (X : World), IV X ma _ → IV X mb _ → Calls _ _ _ X (RetS X (rkO s x t y).1 (rkO s x t y).2)) at HSb
 have HW1 := Hi (fun X (h : Below W.heap.size W X) => withinA_calls s x n true 1000 false 1000 (.slice A k c) X (hm.kept h) hs hx (by omega) (by simp) (by simp) (by omega) (by omega))
 have HW2 := Hi (fun X (h : Below W.heap.size W X) => withinA_calls t y n true 1000 false 1000 (.slice A' k' c') X (hm'.kept h) ht hy (by omega) (by simp) (by simp) (by omega) (by omega))
 rw [show sI true 1000 = -1000 from rfl, show sI false 1000 = 1000 from rfl] at HW1 HW2
 have HG1 := Hi (fun X (h : Below W.heap.size W X) => gSignA_calls t y n (.slice A' k' c') X (hm'.kept h) ht hy)
 have HG2 := Hi (fun mo X h => gSignA_calls (rkO s x t y).1 (rkO s x t y).2 (n + n + 1) mo X h hrc hro)
 have HR := Hi (show rkB s x t y = (inI s x (-1000) 1000 && inI t y (-1000) 1000 && (sgI t y != 0) && (sgI (rkO s x t y).1 (rkO s x t y).2 != 0)) from rfl)
 generalize rkB s x t y = rr at *
 generalize inI s x (-1000) 1000 = r1 at *
 generalize inI t y (-1000) 1000 = r2 at *
 generalize sgI t y = k3 at *
 generalize rkO s x t y = ro at *
 obtain ⟨so, zo⟩ := ro
 dsimp only at HSb HG2 HR
 generalize sgI so zo = k4 at *
 generalize (false != t && decide (0 < 4 * y)) = s4 at *
 generalize (s != s && decide (0 < x * x)) = ss at *
 generalize x * x = xx at *
 generalize 4 * y = yy at *
 clear hI hm hm' hxx h4y hro hrc h4 hx hy hs ht
 rw [show [(s, x), (t, y)].length = 2 from rfl]
 go_enter func201, ntmps201
 go_upto_region 1 with (fail)
 go_cut [3] from 4 to 38 (fun s3 wx => ∃ (b3 : Nat) (Ao : Option Addr) (no co : Nat), s3 = .pointer (some ⟨b3, 0, none⟩) ∧ Bk wx b3 42 #[.bool so, .slice Ao no co] ∧ IV wx (.slice Ao no co) zo ∧ (∀ b o, b < W.heap.size → wx.cell? ⟨b, o, none⟩ = W.cell? ⟨b, o, none⟩) ∧ Below W.heap.size W wx)
 case first =>
  refine rgS W (fun hN => ?_)
  generalize W.drew = v0 at *
  refine tkH 0 rfl ?_; go_simp
  refine tkH 1 rfl ?_; go_simp
  refine tkH 2 rfl ?_; go_simp
  refine tkH 3 rfl ?_; go_simp
  refine tkH 4 rfl ?_; go_simp
  refine tkH 5 rfl ?_; go_simp
  refine tkH 8 rfl ?_; go_simp
  refine tkH 9 rfl ?_; go_simp
  refine tkH 10 rfl ?_; go_simp
  refine rdy [6, 13] ?_
  refine Hb rfl (fun K hK => ?_) ?_
  focus
   go_simp
   refine (HM1.out _ (hN.2)).mono ?_
   rintro e v1 ⟨m6, rfl, HI6, hb⟩
   obtain ⟨A6, k6, c6, rfl⟩ := HI6.slice
   refine hK.out _ _ (sk_step hN hb) (fun hN => ?_); clear hK K hb; go_simp
   refine rdy [7, 13] ?_
   refine Hb rfl (fun K hK => ?_) ?_
   focus
    go_simp
    refine (HO4.out _).mono ?_
    rintro e v2 ⟨m7, rfl, HI7, hb⟩
    obtain ⟨A7, k7, c7, rfl⟩ := HI7.slice
    have HI6 := HI6.kept hb
    refine hK.out _ _ (sk_step hN hb) (fun hN => ?_); clear hK K hb; go_simp
    refine rdy [11, 13] ?_
    refine Hb rfl (fun K hK => ?_) ?_
    focus
     go_simp
     refine (HM2.out _ _ hN.2 HI7).mono ?_
     rintro e v3 ⟨m11, rfl, HI11, hb⟩
     obtain ⟨A11, k11, c11, rfl⟩ := HI11.slice
     have HI6 := HI6.kept hb
     have HI7 := HI7.kept hb
     refine hK.out _ _ (sk_step hN hb) (fun hN => ?_); clear hK K hb; go_simp
     refine rdy [12, 13] ?_
     refine Hb rfl (fun K hK => ?_) ?_
     focus
      go_simp
      refine (HSb.out _ _ _ HI6 HI11).mono ?_
      rintro e v4 ⟨mo, rfl, HOI, hb⟩
      obtain ⟨Ao, no, co, rfl⟩ := HOI.slice
      have HI6 := HI6.kept hb
      have HI7 := HI7.kept hb
      have HI11 := HI11.kept hb
      refine hK.out _ _ (sk_step hN hb) (fun hN => ?_); clear hK K hb; go_simp
      refine rdy [13] ?_
      refine Ha rfl (fun K hK => ?_)
      go_simp
      have hal := (Below.refl v4.heap.size v4).alloc (Nat.le_refl _) (.cells #[.bool false, .slice none 0 0] 42)
      have HI6 := HI6.kept hal
      have HI7 := HI7.kept hal
      have HI11 := HI11.kept hal
      have HOI := HOI.kept hal
      have q3 := Bk.new v4 42 #[.bool false, .slice none 0 0]
      have hb3 := hN.2.size
      refine hK.out _ _ (sk_alloc hN _) (fun hN => ?_); clear hK K hal; go_simp
      generalize v4.alloc _ = vz at *
      generalize v4.heap.size = b3 at *
     rotate_left
     refine Ha rfl (fun K hK => ?_)
     go_simp
     have hal := (Below.refl v3.heap.size v3).alloc (Nat.le_refl _) (.cells #[.bool false, .slice none 0 0] 42)
     have HI6 := HI6.kept hal
     have HI7 := HI7.kept hal
     have HI11 := HI11.kept hal
     have q3 := Bk.new v3 42 #[.bool false, .slice none 0 0]
     have hb3 := hN.2.size
     refine hK.out _ _ (sk_alloc hN _) (fun hN => ?_); clear hK K hal; go_simp
     generalize v3.alloc _ = v6 at *
     generalize v3.heap.size = b3 at *
     refine rdy [12] ?_
     refine Ha rfl (fun K hK => ?_)
     go_simp
     refine (HSb.out _ _ _ HI6 HI11).mono ?_
     rintro e vz ⟨mo, rfl, HOI, hb⟩
     obtain ⟨Ao, no, co, rfl⟩ := HOI.slice
     have q3 := q3.kept hb
     have HI6 := HI6.kept hb
     have HI7 := HI7.kept hb
     have HI11 := HI11.kept hb
     refine hK.out _ _ (sk_step hN hb) (fun hN => ?_); clear hK K hb; go_simp
    rotate_left 2
    refine Ha rfl (fun K hK => ?_)
    go_simp
    have hal := (Below.refl v2.heap.size v2).alloc (Nat.le_refl _) (.cells #[.bool false, .slice none 0 0] 42)
    have HI6 := HI6.kept hal
    have HI7 := HI7.kept hal
    have q3 := Bk.new v2 42 #[.bool false, .slice none 0 0]
    have hb3 := hN.2.size
    refine hK.out _ _ (sk_alloc hN _) (fun hN => ?_); clear hK K hal; go_simp
    generalize v2.alloc _ = v8 at *
    generalize v2.heap.size = b3 at *
    refine rdy [11] ?_
    refine Ha rfl (fun K hK => ?_)
    go_simp
    refine (HM2.out _ _ hN.2 HI7).mono ?_
    rintro e v9 ⟨m11, rfl, HI11, hb⟩
    obtain ⟨A11, k11, c11, rfl⟩ := HI11.slice
    have q3 := q3.kept hb
    have HI6 := HI6.kept hb
    have HI7 := HI7.kept hb
    refine hK.out _ _ (sk_step hN hb) (fun hN => ?_); clear hK K hb; go_simp
    refine rdy [12] ?_
    refine Ha rfl (fun K hK => ?_)
    go_simp
    refine (HSb.out _ _ _ HI6 HI11).mono ?_
    rintro e vz ⟨mo, rfl, HOI, hb⟩
    obtain ⟨Ao, no, co, rfl⟩ := HOI.slice
    have q3 := q3.kept hb
    have HI6 := HI6.kept hb
    have HI7 := HI7.kept hb
    have HI11 := HI11.kept hb
    refine hK.out _ _ (sk_step hN hb) (fun hN => ?_); clear hK K hb; go_simp
   rotate_left 3
   refine Ha rfl (fun K hK => ?_)
   go_simp
   have hal := (Below.refl v1.heap.size v1).alloc (Nat.le_refl _) (.cells #[.bool false, .slice none 0 0] 42)
   have HI6 := HI6.kept hal
   have q3 := Bk.new v1 42 #[.bool false, .slice none 0 0]
   have hb3 := hN.2.size
   refine hK.out _ _ (sk_alloc hN _) (fun hN => ?_); clear hK K hal; go_simp
   generalize v1.alloc _ = v11 at *
   generalize v1.heap.size = b3 at *
   refine rdy [7] ?_
   refine Ha rfl (fun K hK => ?_)
   go_simp
   refine (HO4.out _).mono ?_
   rintro e v12 ⟨m7, rfl, HI7, hb⟩
   obtain ⟨A7, k7, c7, rfl⟩ := HI7.slice
   have q3 := q3.kept hb
   have HI6 := HI6.kept hb
   refine hK.out _ _ (sk_step hN hb) (fun hN => ?_); clear hK K hb; go_simp
   refine rdy [11] ?_
   refine Ha rfl (fun K hK => ?_)
   go_simp
   refine (HM2.out _ _ hN.2 HI7).mono ?_
   rintro e v13 ⟨m11, rfl, HI11, hb⟩
   obtain ⟨A11, k11, c11, rfl⟩ := HI11.slice
   have q3 := q3.kept hb
   have HI6 := HI6.kept hb
   have HI7 := HI7.kept hb
   refine hK.out _ _ (sk_step hN hb) (fun hN => ?_); clear hK K hb; go_simp
   refine rdy [12] ?_
   refine Ha rfl (fun K hK => ?_)
   go_simp
   refine (HSb.out _ _ _ HI6 HI11).mono ?_
   rintro e vz ⟨mo, rfl, HOI, hb⟩
   obtain ⟨Ao, no, co, rfl⟩ := HOI.slice
   have q3 := q3.kept hb
   have HI6 := HI6.kept hb
   have HI7 := HI7.kept hb
   have HI11 := HI11.kept hb
   refine hK.out _ _ (sk_step hN hb) (fun hN => ?_); clear hK K hb; go_simp
  rotate_left 4
  refine Ha rfl (fun K hK => ?_)
  go_simp
  have hal := (Below.refl v0.heap.size v0).alloc (Nat.le_refl _) (.cells #[.bool false, .slice none 0 0] 42)
  have q3 := Bk.new v0 42 #[.bool false, .slice none 0 0]
  have hb3 := hN.2.size
  refine hK.out _ _ (sk_alloc hN _) (fun hN => ?_); clear hK K hal; go_simp
  generalize v0.alloc _ = v15 at *
  generalize v0.heap.size = b3 at *
  refine rdy [6] ?_
  refine Ha rfl (fun K hK => ?_)
  go_simp
  refine (HM1.out _ (hN.2)).mono ?_
  rintro e v16 ⟨m6, rfl, HI6, hb⟩
  obtain ⟨A6, k6, c6, rfl⟩ := HI6.slice
  have q3 := q3.kept hb
  refine hK.out _ _ (sk_step hN hb) (fun hN => ?_); clear hK K hb; go_simp
  refine rdy [7] ?_
  refine Ha rfl (fun K hK => ?_)
  go_simp
  refine (HO4.out _).mono ?_
  rintro e v17 ⟨m7, rfl, HI7, hb⟩
  obtain ⟨A7, k7, c7, rfl⟩ := HI7.slice
  have q3 := q3.kept hb
  have HI6 := HI6.kept hb
  refine hK.out _ _ (sk_step hN hb) (fun hN => ?_); clear hK K hb; go_simp
  refine rdy [11] ?_
  refine Ha rfl (fun K hK => ?_)
  go_simp
  refine (HM2.out _ _ hN.2 HI7).mono ?_
  rintro e v18 ⟨m11, rfl, HI11, hb⟩
  obtain ⟨A11, k11, c11, rfl⟩ := HI11.slice
  have q3 := q3.kept hb
  have HI6 := HI6.kept hb
  have HI7 := HI7.kept hb
  refine hK.out _ _ (sk_step hN hb) (fun hN => ?_); clear hK K hb; go_simp
  refine rdy [12] ?_
  refine Ha rfl (fun K hK => ?_)
  go_simp
  refine (HSb.out _ _ _ HI6 HI11).mono ?_
  rintro e vz ⟨mo, rfl, HOI, hb⟩
  obtain ⟨Ao, no, co, rfl⟩ := HOI.slice
  have q3 := q3.kept hb
  have HI6 := HI6.kept hb
  have HI7 := HI7.kept hb
  have HI11 := HI11.kept hb
  refine hK.out _ _ (sk_step hN hb) (fun hN => ?_); clear hK K hb; go_simp
  all_goals
   have c30 := q3.cell 0
   have c31 := q3.cell 1
   have f30 := q3.frozen 0
   have f31 := q3.frozen 1
   have l3 := q3.lt
   refine rdH 14 rfl (fun K hK => ?_)
   go_simp
   have q3t := (q3.put 0 (.bool so)).put 1 (.slice Ao no co)
   have hIo := (HOI.set q3 (by decide) 0 (.bool so)).set (q3.put 0 (.bool so)) (by decide) 1 (.slice Ao no co)
   refine hK.out _ _ (sk_set (p := ⟨b3, 1, none⟩) (sk_set (p := ⟨b3, 0, none⟩) hN hb3 _) hb3 _) (fun hN => ?_); clear hK K; go_simp
   refine Hn ?_
   go_wp2_with fail
   go_meet
   case rel => exact ⟨b3, Ao, no, co, rfl, by simpa using q3t, hIo, hN⟩
 case rest =>
  obtain ⟨b3, Ao, no, co, rfl, q3, hI3, hS⟩ := hcut
  have e0 := (hS.1 g 0 hgl).trans e0
  have e1 := (hS.1 g 1 hgl).trans e1
  have e2 := (hS.1 g 2 hgl).trans e2
  have e3 := (hS.1 g 3 hgl).trans e3
  have hgl := Nat.lt_of_lt_of_le hgl hS.2.size
  have hB := hS.2
  clear hS
  generalize wc = W2 at *
  cases r1 with
  | false =>
   go_wp2_with fail
   refine (HW1.out _ hB).mono ?_
   rintro e w4 ⟨rfl, hB4⟩
   go_wp2_with fail
   go_ret
   exact ⟨ret_bool (by rw [HR.out]; simp), hB.trans (hB4.mono hB.size)⟩
  | true =>
   cases r2 with
   | false =>
    go_wp2_with fail
    refine (HW1.out _ hB).mono ?_
    rintro e w4 ⟨rfl, hB4⟩
    have hB := hB.trans (hB4.mono hB.size)
    have e2 := (hB4.cell (p := ⟨g, 2, none⟩) hgl).trans e2
    have e3 := (hB4.cell (p := ⟨g, 3, none⟩) hgl).trans e3
    have hgl := Nat.lt_of_lt_of_le hgl hB4.size
    go_wp2_with fail
    refine (HW2.out _ hB).mono ?_
    rintro e w5 ⟨rfl, hB5⟩
    go_wp2_with fail
    go_ret
    exact ⟨ret_bool (by rw [HR.out]; simp), hB.trans (hB5.mono hB.size)⟩
   | true =>
    by_cases hk3 : (k3 != 0) = false
    ·go_wp2_with fail
     refine (HW1.out _ hB).mono ?_
     rintro e w4 ⟨rfl, hB4⟩
     have hB := hB.trans (hB4.mono hB.size)
     have e2 := (hB4.cell (p := ⟨g, 2, none⟩) hgl).trans e2
     have e3 := (hB4.cell (p := ⟨g, 3, none⟩) hgl).trans e3
     have hgl := Nat.lt_of_lt_of_le hgl hB4.size
     go_wp2_with fail
     refine (HW2.out _ hB).mono ?_
     rintro e w5 ⟨rfl, hB5⟩
     have hB := hB.trans (hB5.mono hB.size)
     have e2 := (hB5.cell (p := ⟨g, 2, none⟩) hgl).trans e2
     have e3 := (hB5.cell (p := ⟨g, 3, none⟩) hgl).trans e3
     have hgl := Nat.lt_of_lt_of_le hgl hB5.size
     go_wp2_with fail
     refine (HG1.out _ hB).mono ?_
     rintro e w6 ⟨rfl, hB6⟩
     go_wp2_with fail
     go_ret
     exact ⟨ret_bool (by rw [HR.out, hk3]; simp), hB.trans (hB6.mono hB.size)⟩
    ·have hk3 : (k3 != 0) = true := by simpa using hk3
     go_wp2_with fail
     refine (HW1.out _ hB).mono ?_
     rintro e w4 ⟨rfl, hB4⟩
     have hB := hB.trans (hB4.mono hB.size)
     have q3 := q3.kept hB4
     have hI3 := hI3.kept hB4
     have e2 := (hB4.cell (p := ⟨g, 2, none⟩) hgl).trans e2
     have e3 := (hB4.cell (p := ⟨g, 3, none⟩) hgl).trans e3
     have hgl := Nat.lt_of_lt_of_le hgl hB4.size
     go_wp2_with fail
     refine (HW2.out _ hB).mono ?_
     rintro e w5 ⟨rfl, hB5⟩
     have hB := hB.trans (hB5.mono hB.size)
     have q3 := q3.kept hB5
     have hI3 := hI3.kept hB5
     have e2 := (hB5.cell (p := ⟨g, 2, none⟩) hgl).trans e2
     have e3 := (hB5.cell (p := ⟨g, 3, none⟩) hgl).trans e3
     have hgl := Nat.lt_of_lt_of_le hgl hB5.size
     go_wp2_with fail
     refine (HG1.out _ hB).mono ?_
     rintro e w6 ⟨rfl, hB6⟩
     have hB := hB.trans (hB6.mono hB.size)
     have q3 := q3.kept hB6
     have hI3 := hI3.kept hB6
     have d0 := q3.cell 0
     have d1 := q3.cell 1
     have dl := q3.lt
     go_wp2_with fail
     refine (HG2.out _ _ hI3).mono ?_
     rintro e w7 ⟨rfl, hB7⟩
     go_wp2_with fail
     go_ret
     exact ⟨ret_bool (by rw [HR.out, hk3]; simp), hB.trans (hB7.mono hB.size)⟩
end Go.Proofs.YthjilnnmahcnpaaGreatDoor
