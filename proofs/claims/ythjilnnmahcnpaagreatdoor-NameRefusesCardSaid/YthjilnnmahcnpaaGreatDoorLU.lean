/- Canon, Move, Alike: what they say of names of objects, and of others. Canon of other names; Move, Alike. -/
import Derived.Test.YthjilnnmahcnpaaGreatDoorLT
import Derived.Test.YthjilnnmahcnpaaGreatDoorLP
namespace Go.Proofs.YthjilnnmahcnpaaGreatDoor
open Go.RowKit Go.Shelf

theorem choose_calls (d p : Nat) (a b : Int) (w : World) (hd : d = 1 ∨ d = 2) (hp : 5 ≤ p) (hp' : p ≤ 1000) (ha : 0 ≤ a) (ha' : a < p) (hb : 0 ≤ b) (hb' : b < p) :
    Calls Tryz.prog 46 #[cv p a b, .int .i64 (d : Nat)] w fun e w' => e = .returned (cv p (chI d p a b (us (p - 1))).1 (chI d p a b (us (p - 1))).2) ∧ Below w.heap.size w w' := by
  rcases hd with rfl | rfl
  · exact choose1_calls p a b w hp hp' ha ha' hb hb'
  · exact choose2_calls p a b w hp hp' ha ha' hb hb'
set_option maxRecDepth 100000 in
set_option maxHeartbeats 2000000 in
theorem Canon_curve (s : List UInt8) (k d p a b a' b' : Nat) (w : World) (hk : k = 7 ∨ k = 8) (hd : d = 1 ∨ d = 2) (hc : CvOK p a b) (hch : chI d p a b (us (p - 1)) = ((a' : Int), (b' : Int))) (hc' : CvOK p a' b') (h : Good s k [(false, p), (false, a), (false, b)] w) :
    Calls Tryz.prog 22 #[st s, .int .i64 (d : Nat)] w fun e w' => e = .returned (.tuple #[st (textN k [(false, p), (false, a'), (false, b')]), .int .i64 0]) ∧ Below w.heap.size w w' := by
  obtain ⟨hp5, hp98, hpr, ha, hb, _⟩ := hc
  obtain ⟨_, _, _, ha', hb', _⟩ := hc'
  have HO := Lib.hid (Object_good s k _ w h)
  have HG := Lib.hid h
  have HC := Lib.hid (fun W hG => Curve_good s k p a b W hk (by omega) (by omega) (by omega) hG)
  have HCh := Lib.hid (fun W => choose_calls d p a b W hd hp5 (by omega) (by omega) (by omega) (by omega) (by omega))
  rw [hch] at HCh
  have HOf := Lib.hid (fun (n : Nat) W (h : n < 100) => pOf_calls n W (by omega))
  obtain ⟨j, rfl⟩ : ∃ j, k = j + 1 := ⟨k - 1, by omega⟩
  have hj : j < 10 := by omega
  have HF := Lib.hid (fun g W hI => Format_calls j g 3 [(false, p), (false, a'), (false, b')] W hj (by rcases hk with h | h <;> (obtain rfl : j = _ := by (first | exact Nat.succ.inj h)) <;> rfl) hI (by
    intro v hv
    simp at hv
    have : v.2 < 100 ∧ v.1 = false := by rcases hv with rfl | rfl | rfl <;> simp <;> omega
    exact ⟨Nat.lt_trans this.1 (by decide +kernel), fun h => by rw [this.2] at h; cases h⟩) (by
    intro v hv
    simp at hv
    have : v.2 < 100 := by rcases hv with rfl | rfl | rfl <;> simp <;> omega
    exact itOK_small this W))
  have HL := Lib.hid (cvN_len (k := j + 1) (p := p) (a := a') (b := b') (by omega) (by omega) (by omega))
  unfold RetText at HF
  have hdd : decide ((d : Int) = 1 ∨ (d : Int) = 2) = true := by rcases hd with rfl | rfl <;> rfl
  have HD := Lib.hid (fun W => defined_calls d W)
  rw [hdd] at HD
  clear h hdd hch hpr hk hd hj
  generalize ((j + 1 : Nat) : Int) = jj at *
  go_enter Tryz.func22, Tryz.ntmps22
  go_wp2_with fail
  refine HO.out.mono ?_
  rintro e w1 ⟨g, cap, rfl, hI, hB1⟩
  rw [show [(false, p), (false, a), (false, b)].length = 3 from rfl]
  dsimp only
  go_wp2_with fail
  refine (HD.out _).mono ?_
  rintro e w2 ⟨rfl, rfl⟩
  dsimp only
  go_wp2_with fail
  refine (HC.out _ (HG.out.kept hB1)).mono ?_
  rintro e w3 ⟨rfl, hB3⟩
  have hB := hB1.trans (hB3.mono hB1.size)
  have hI := hI.kept hB3
  dsimp only
  have q := Bk.new w3 57 #[.int .i64 p, .int .i64 a, .int .i64 b]
  have hal := (Below.refl w3.heap.size w3).alloc (Nat.le_refl _) (.cells #[.int .i64 p, .int .i64 a, .int .i64 b] 57)
  obtain ⟨c0, c1, c2, _, _, _⟩ := q.six
  have hl := q.lt
  have hI := hI.kept hal
  have hB := hB.trans (hal.mono hB.size)
  have hb4 := (hB1.trans (hB3.mono hB1.size)).size
  go_wp2_with fail
  generalize w3.alloc (.cells #[.int .i64 p, .int .i64 a, .int .i64 b] 57) = W4 at *
  generalize w3.heap.size = b4 at *
  refine (HCh.out _).mono ?_
  rintro e w5 ⟨rfl, hB5⟩
  dsimp only
  have q5 := q.kept hB5
  obtain ⟨d0, d1, d2, f0, f1, f2⟩ := q5.six
  have hl5 := q5.lt
  go_upto_region 10 with (fail)
  have hI5 := hI.kept hB5
  have hB6 := hB.trans (hB5.mono hB.size)
  have q6a := q5.put 0 (.int .i64 (p : Nat))
  have q6b := q6a.put 1 (.int .i64 (a' : Nat))
  have q6c := q6b.put 2 (.int .i64 (b' : Nat))
  have hI6 := ((hI5.tr (trP_set q5 0 (.int .i64 (p : Nat))) (by decide) (by decide)).tr (trP_set q6a 1 (.int .i64 (a' : Nat))) (by decide) (by decide)).tr (trP_set q6b 2 (.int .i64 (b' : Nat))) (by decide) (by decide)
  have hB7 := ((hB6.setCell (p := ⟨b4, 0, none⟩) (by simpa using hb4) (.int .i64 (p : Nat))).setCell (p := ⟨b4, 1, none⟩) (by simpa using hb4) (.int .i64 (a' : Nat))).setCell (p := ⟨b4, 2, none⟩) (by simpa using hb4) (.int .i64 (b' : Nat))
  have q6 : Bk (((w5.setCell ⟨b4, 0, none⟩ (.int .i64 (p : Nat))).setCell ⟨b4, 1, none⟩ (.int .i64 (a' : Nat))).setCell ⟨b4, 2, none⟩ (.int .i64 (b' : Nat))) b4 57 #[.int .i64 p, .int .i64 a', .int .i64 b'] := by simpa using q6c
  clear q6a q6b q6c hI5 hB6 d0 d1 d2 f0 f1 f2 hl5 q5 c0 c1 c2 hl q hI hB hal hb4
  generalize (((w5.setCell ⟨b4, 0, none⟩ (.int .i64 (p : Nat))).setCell ⟨b4, 1, none⟩ (.int .i64 (a' : Nat))).setCell ⟨b4, 2, none⟩ (.int .i64 (b' : Nat))) = W at *
  obtain ⟨_, c1, c2, _, _, _⟩ := q6.six
  have hl := q6.lt
  obtain ⟨m0, e0, e1, hm0, hgl⟩ := hI6.at (j := 0) (v := (false, p)) rfl
  obtain ⟨A0, n0, k0, rfl⟩ := hm0.slice
  simp only [Nat.zero_mul, Nat.zero_add] at e0 e1
  refine wp_normal ?_
  refine wp_region_held_drew (S := (fun w' => (∀ b o, b < W.heap.size → w'.cell? ⟨b, o, none⟩ = W.cell? ⟨b, o, none⟩) ∧ Below W.heap.size W w')) (by kernel_rfl) (sk_start _) (fun hHeld => ?_)
  refine tkH 0 rfl ?_; go_simp
  refine tkH 1 rfl ?_; go_simp
  refine tkH 2 rfl ?_; go_simp
  refine tkH 3 rfl ?_; go_simp
  refine tkH 4 rfl ?_; go_simp
  refine tkH 5 rfl ?_; go_simp
  refine tkH 7 rfl ?_; go_simp
  refine tkH 8 rfl ?_; go_simp
  refine rdH 6 rfl (fun K hK => ?_)
  go_simp
  refine (HOf.out a' _ (by omega)).mono ?_
  rintro e w8 ⟨m1, rfl, hb1, hR1⟩
  have hI1 := IV.ofRet hR1 (by omega)
  obtain ⟨A1, n1, k1, rfl⟩ := hI1.slice
  refine hK.out _ _ (sk_step hHeld hb1) (fun hHeld => ?_); clear hK K; go_simp
  refine rdH 9 rfl (fun K hK => ?_)
  go_simp
  refine (HOf.out b' _ (by omega)).mono ?_
  rintro e w9 ⟨m2, rfl, hb2, hR2⟩
  have hI2 := IV.ofRet hR2 (by omega)
  obtain ⟨A2, n2, k2, rfl⟩ := hI2.slice
  have hI1 := hI1.kept hb2
  refine hK.out _ _ (sk_step hHeld hb2) (fun hHeld => ?_); clear hK K; go_simp
  have hI0 := hm0.kept hHeld.2
  refine rdH 10 rfl (fun K hK => ?_)
  go_simp
  have hI := ints_new (s0 := false) (s1 := false) (s2 := false) hI0 hI1 hI2
  refine hK.out _ _ (sk_alloc hHeld _) (fun hHeld => ?_); clear hK K; go_simp
  generalize w9.alloc (.cells #[.bool false, .slice A0 n0 k0, .bool false, .slice A1 n1 k1, .bool false, .slice A2 n2 k2] 42) = w10 at *
  clear hI0 hI1 hI2 hb1 hb2 hR1 hR2
  refine rdH 11 rfl (fun K hK => ?_)
  go_simp
  refine (HF.out _ _ hI).mono ?_
  rintro e w11 ⟨rfl, hb5⟩
  rw [if_pos HL.out, if_pos HL.out]
  obtain ⟨X, hX⟩ : ∃ X, X = textN (j + 1) [(false, p), (false, a'), (false, b')] := ⟨_, rfl⟩
  rw [← hX]
  have HX := Lib.hid hX
  clear hX
  refine hK.out _ _ (sk_step hHeld hb5) (fun hHeld => ?_); clear hK K; go_simp
  refine tkH 12 rfl ?_; go_simp
  refine tkH 13 rfl ?_; go_simp
  refine tkH 14 rfl ?_; go_simp
  refine tkH 15 rfl ?_; go_simp
  refine wpAnyH_done (by kernel_rfl) ?_ _
  go_wp2_with fail
  exact bodyPost_ret (v := .tuple #[st X, .int .i64 0]) (by simp [results, Tryz.results22, go_sem]) rfl ⟨by rw [HX.out], hB7.trans (hHeld.2.mono hB7.size)⟩

end Go.Proofs.YthjilnnmahcnpaaGreatDoor

namespace Go.Proofs.YthjilnnmahcnpaaGreatDoor
open Go.RowKit Go.Shelf

/-- what Canon says of a text, in each world to come -/
def CanSays (s : List UInt8) (d : Int) (c : List UInt8) (e : Int) (w : World) : Prop := ∀ W, Below w.heap.size w W → Calls Tryz.prog 22 #[st s, .int .i64 d] W fun r w' => r = .returned (.tuple #[st c, .int .i64 e]) ∧ Below W.heap.size W w'
theorem CanSays.kept {s c : List UInt8} {d e : Int} {w W : World} (h : CanSays s d c e w) (hB : Below w.heap.size w W) : CanSays s d c e W := fun X hX => h X (hB.trans (hX.mono hB.size))
theorem can_curve {s : List UInt8} {k d p a b a' b' : Nat} {w : World} (hk : k = 7 ∨ k = 8) (hd : d = 1 ∨ d = 2) (hc : CvOK p a b) (hch : chI d p a b (us (p - 1)) = ((a' : Int), (b' : Int))) (hc' : CvOK p a' b') (h : Good s k [(false, p), (false, a), (false, b)] w) :
    CanSays s (d : Nat) (textN k [(false, p), (false, a'), (false, b')]) 0 w := fun W hW => Canon_curve s k d p a b a' b' W hk hd hc hch hc' (h.kept hW)
theorem can_bad {s : List UInt8} (d : Int) {w : World} (h : Bad s w) : CanSays s d [] 320 w := by
  intro W hW
  have HO := Lib.hid (Object_bad s W (h.kept hW))
  clear h
  go_enter Tryz.func22, Tryz.ntmps22
  go_wp2_with fail
  refine HO.out.mono ?_
  rintro e w1 ⟨rfl, hB⟩
  dsimp only
  go_wp2_with fail
  exact bodyPost_ret (v := .tuple #[st [], .int .i64 320]) (by simp [results, Tryz.results22, go_sem]) rfl ⟨rfl, hB⟩
theorem can_nodef {s : List UInt8} {k : Nat} {vs : List (Bool × Nat)} {d : Int} (hd : ¬ (d = 1 ∨ d = 2)) {w : World} (h : Good s k vs w) : CanSays s d [] 321 w := by
  intro W hW
  have HO := Lib.hid (Object_good s k vs W (h.kept hW))
  have HD := Lib.hid (fun W => defined_calls d W)
  rw [decide_eq_false hd] at HD
  clear h hd
  go_enter Tryz.func22, Tryz.ntmps22
  go_wp2_with fail
  refine HO.out.mono ?_
  rintro e w1 ⟨g, cap, rfl, hI, hB⟩
  generalize vs.length = nv at *
  dsimp only
  go_wp2_with fail
  refine (HD.out _).mono ?_
  rintro e w2 ⟨rfl, rfl⟩
  dsimp only
  go_wp2_with fail
  exact bodyPost_ret (v := .tuple #[st [], .int .i64 321]) (by simp [results, Tryz.results22, go_sem]) rfl ⟨rfl, hB⟩
theorem can_other {s : List UInt8} {k : Nat} {vs : List (Bool × Nat)} {d : Int} (hd : d = 1 ∨ d = 2) (h7 : k ≠ 7) (h8 : k ≠ 8) {w : World} (h : Good s k vs w) : CanSays s d s 0 w := by
  intro W hW
  have HO := Lib.hid (Object_good s k vs W (h.kept hW))
  have HC := Lib.hid (fun X hX => Curve_other s k vs X h7 h8 ((h.kept hW).kept hX))
  have HD := Lib.hid (fun W => defined_calls d W)
  rw [decide_eq_true hd] at HD
  clear h hd h7 h8
  go_enter Tryz.func22, Tryz.ntmps22
  go_wp2_with fail
  refine HO.out.mono ?_
  rintro e w1 ⟨g, cap, rfl, hI, hB⟩
  generalize vs.length = nv at *
  dsimp only
  go_wp2_with fail
  refine (HD.out _).mono ?_
  rintro e w2 ⟨rfl, rfl⟩
  dsimp only
  go_wp2_with fail
  refine (HC.out _ hB).mono ?_
  rintro e w3 ⟨rfl, hB3⟩
  dsimp only
  go_wp2_with fail
  exact bodyPost_ret (v := .tuple #[st s, .int .i64 0]) (by simp [results, Tryz.results22, go_sem]) rfl ⟨rfl, (hB.trans (hB3.mono hB.size)).alloc (by have := hB.size; have := hB3.size; omega) _⟩

theorem Move_bad (s : List UInt8) (f t : Int) (w : World) (h : Bad s w) :
    Calls Tryz.prog 23 #[st s, .int .i64 f, .int .i64 t] w fun r w' => r = .returned (.tuple #[st [], .int .i64 320]) ∧ Below w.heap.size w w' := by
  have HO := Lib.hid (Right_bad s w h)
  clear h
  go_enter Tryz.func23, Tryz.ntmps23
  go_wp2_with fail
  refine HO.out.mono ?_
  rintro e w1 ⟨rfl, hB⟩
  dsimp only
  go_wp2_with fail
  exact bodyPost_ret (v := .tuple #[st [], .int .i64 320]) (by simp [results, Tryz.results23, go_sem]) rfl ⟨rfl, hB⟩
theorem Move_nodef (s : List UInt8) (k : Nat) (vs : List (Bool × Nat)) (f t : Int) (w : World) (hd : ¬ ((f = 1 ∨ f = 2) ∧ (t = 1 ∨ t = 2))) (h : Good s k vs w) :
    Calls Tryz.prog 23 #[st s, .int .i64 f, .int .i64 t] w fun r w' => r = .returned (.tuple #[st [], .int .i64 321]) ∧ Below w.heap.size w w' := by
  have HO := Lib.hid (Right_good s k vs w h)
  have HF := Lib.hid (fun W => defined_calls f W)
  have HT := Lib.hid (fun W => defined_calls t W)
  clear h
  by_cases hf : f = 1 ∨ f = 2
  · have ht : ¬ (t = 1 ∨ t = 2) := fun ht => hd ⟨hf, ht⟩
    rw [decide_eq_true hf] at HF
    rw [decide_eq_false ht] at HT
    clear hf ht hd
    go_enter Tryz.func23, Tryz.ntmps23
    go_wp2_with fail
    refine HO.out.mono ?_
    rintro e w1 ⟨rfl, hB⟩
    dsimp only
    go_wp2_with fail
    refine (HF.out _).mono ?_
    rintro e w2 ⟨rfl, rfl⟩
    dsimp only
    go_wp2_with fail
    refine (HT.out _).mono ?_
    rintro e w2 ⟨rfl, rfl⟩
    dsimp only
    go_wp2_with fail
    exact bodyPost_ret (v := .tuple #[st [], .int .i64 321]) (by simp [results, Tryz.results23, go_sem]) rfl ⟨rfl, hB⟩
  · rw [decide_eq_false hf] at HF
    clear hf hd
    go_enter Tryz.func23, Tryz.ntmps23
    go_wp2_with fail
    refine HO.out.mono ?_
    rintro e w1 ⟨rfl, hB⟩
    dsimp only
    go_wp2_with fail
    refine (HF.out _).mono ?_
    rintro e w2 ⟨rfl, rfl⟩
    dsimp only
    go_wp2_with fail
    exact bodyPost_ret (v := .tuple #[st [], .int .i64 321]) (by simp [results, Tryz.results23, go_sem]) rfl ⟨rfl, hB⟩
/-- the name is canonical by the one definition, or not: both ways -/
theorem Move_good (s c c2 : List UInt8) (k : Nat) (vs : List (Bool × Nat)) (f t : Int) (w : World) (hf : f = 1 ∨ f = 2) (ht : t = 1 ∨ t = 2) (h : Good s k vs w) (h1 : CanSays s f c 0 w) (h2 : CanSays s t c2 0 w) :
    Calls Tryz.prog 23 #[st s, .int .i64 f, .int .i64 t] w fun r w' => r = .returned (.tuple #[st (if c = s then c2 else []), .int .i64 (if c = s then 0 else 320)]) ∧ Below w.heap.size w w' := by
  have HO := Lib.hid (Right_good s k vs w h)
  have HF := Lib.hid (fun W => defined_calls f W)
  have HT := Lib.hid (fun W => defined_calls t W)
  rw [decide_eq_true hf] at HF
  rw [decide_eq_true ht] at HT
  have H1 := Lib.hid h1
  have H2 := Lib.hid h2
  clear hf ht h h1 h2
  have hcs : ((⟨c.toArray⟩ : ByteArray) = ⟨s.toArray⟩) ↔ c = s := by
    constructor
    · intro e
      simpa using e
    · rintro rfl; rfl
  have HCS := Lib.hid hcs
  clear hcs
  go_enter Tryz.func23, Tryz.ntmps23
  go_wp2_with fail
  refine HO.out.mono ?_
  rintro e w1 ⟨rfl, hB⟩
  dsimp only
  go_wp2_with fail
  refine (HF.out _).mono ?_
  rintro e w2 ⟨rfl, rfl⟩
  dsimp only
  go_wp2_with fail
  refine (HT.out _).mono ?_
  rintro e w2 ⟨rfl, rfl⟩
  dsimp only
  go_wp2_with fail
  refine (H1.out _ hB).mono ?_
  rintro e w3 ⟨rfl, hB3⟩
  have hB4 := hB.trans (hB3.mono hB.size)
  dsimp only
  by_cases hc : c = s
  · subst hc
    go_wp2_with fail
    refine (H2.out _ hB4).mono ?_
    rintro e w5 ⟨rfl, hB5⟩
    dsimp only
    go_wp2_with fail
    exact bodyPost_ret (v := .tuple #[st c2, .int .i64 0]) (by simp [results, Tryz.results23, go_sem]) rfl ⟨by simp, hB4.trans (hB5.mono hB4.size)⟩
  · have hn : (c == s) = false := by simpa using hc
    have HN := Lib.hid hc
    clear hc
    go_wp2_with fail
    exact bodyPost_ret (v := .tuple #[st [], .int .i64 320]) (by simp [results, Tryz.results23, go_sem]) rfl ⟨rfl, hB4⟩

theorem Alike_calls (s t a b : List UInt8) (ea eb : Int) (w : World) (h1 : CanSays s 1 a ea w) (h2 : CanSays t 1 b eb w) :
    Calls Tryz.prog 21 #[st s, st t] w fun r w' => r = .returned (.tuple #[.bool (decide (ea = 0 ∧ eb = 0 ∧ a = b)), .int .i64 (if ea = 0 ∧ eb = 0 then 0 else 320)]) ∧ Below w.heap.size w w' := by
  have H1 := Lib.hid h1
  have H2 := Lib.hid h2
  clear h1 h2
  obtain ⟨rb, hrb⟩ : ∃ rb, rb = decide (ea = 0 ∧ eb = 0 ∧ a = b) := ⟨_, rfl⟩
  obtain ⟨re, hre⟩ : ∃ re : Int, re = if ea = 0 ∧ eb = 0 then 0 else 320 := ⟨_, rfl⟩
  rw [← hrb, ← hre]
  have HR := Lib.hid (And.intro hrb hre)
  clear hrb hre
  go_enter Tryz.func21, Tryz.ntmps21
  go_wp2_with fail
  refine (H1.out _ (Below.refl _ _)).mono ?_
  rintro e w1 ⟨rfl, hB⟩
  dsimp only
  go_wp2_with fail
  refine (H2.out _ hB).mono ?_
  rintro e w2 ⟨rfl, hB2⟩
  have hB3 := hB.trans (hB2.mono hB.size)
  dsimp only
  by_cases ha : ea = 0
  · subst ha
    by_cases hb : eb = 0
    · subst hb
      go_wp2_with fail
      exact bodyPost_ret (v := .tuple #[.bool (a == b), .int .i64 0]) (by simp [results, Tryz.results21, go_sem]) rfl ⟨by rw [HR.out.1, HR.out.2]; simp [Bool.beq_eq_decide_eq], hB3⟩
    · have hb' : (eb != 0) = true := by rw [bne_iff_ne]; exact hb
      have HB := Lib.hid hb
      clear hb
      go_wp2_with fail
      exact bodyPost_ret (v := .tuple #[.bool false, .int .i64 320]) (by simp [results, Tryz.results21, go_sem]) rfl ⟨by have := HB.out; rw [HR.out.1, HR.out.2]; simp [this], hB3⟩
  · have ha' : (ea != 0) = true := by rw [bne_iff_ne]; exact ha
    have HA := Lib.hid ha
    clear ha
    go_wp2_with fail
    exact bodyPost_ret (v := .tuple #[.bool false, .int .i64 320]) (by simp [results, Tryz.results21, go_sem]) rfl ⟨by have := HA.out; rw [HR.out.1, HR.out.2]; simp [this], hB3⟩

end Go.Proofs.YthjilnnmahcnpaaGreatDoor
