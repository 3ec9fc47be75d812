/- The text of a number. -/
import Derived.Test.YthjilnnmahcnpaaGreatDoorWLL
import Derived.Deep.LoopGhost
import Derived.Deep.CutRange
import Derived.Deep.DeepCutAuto
import Derived.Laws.BytesArg
namespace Go.Proofs.YthjilnnmahcnpaaGreatDoor
open Go.RowKit Go.Shelf Go.Sort Go.Proofs.Tryz
set_option maxRecDepth 100000
set_option maxHeartbeats 2000000
def ItOK (z : Nat) (w : World) : Prop := ∀ (r : Nat) (W : World), r ≤ z → r < 1000000000 → Below w.heap.size w W → Calls prog 65 #[.int .i64 (r : Nat)] W fun e w' => e = .returned (st (Lib.decDigits r)) ∧ Below W.heap.size W w'
theorem itOK_small {z : Nat} (h : z < 100) (w : World) : ItOK z w := fun r W hr _ _ => (Tryz.strconv_Itoa_small r (by omega) W).mono fun e w' ⟨he, hw⟩ => ⟨he, hw ▸ Below.refl _ _⟩
theorem ItOK.kept {z : Nat} {w W : World} (h : ItOK z w) (hB : Below w.heap.size w W) : ItOK z W := fun r X h1 h2 h3 => h r X h1 h2 (hB.trans (h3.mono hB.size))
theorem repeatL_one48 : ∀ c, Lib.repeatL [48] c = List.replicate c 48
 | 0 => rfl
 | c + 1 => by rw [Lib.repeatL, repeatL_one48 c]; rfl
theorem Repeat48 (c : Nat) (W : World) (hc : c ≤ 9) : Calls prog 66 #[st [48], .int .i64 c] W fun e w' => e = .returned (st (List.replicate c 48)) ∧ Below W.heap.size W w' :=
 (Tryz.strings_Repeat ⟨#[48]⟩ c W (by omega) (by simp [ByteArray.size]; omega)).mono fun e w' ⟨he, hw⟩ => ⟨by rw [he, ← repeatL_one48], hw⟩
theorem join_flat (l : List (List UInt8)) : Lib.join l [] = l.flatten := by
 induction l with
 | nil => rfl
 | cons x r ih => rw [Lib.join_cons]; simp [Lib.joinTail]
theorem putRowS_gb (w : World) (blk off n : Nat) (dk : Array (List UInt8)) : w.grownBy (putRow encStr (Sort.ahead w n) blk off dk) (some blk) := by
 have hsz : (putRow encStr (Sort.ahead w n) blk off dk).heap.size = w.heap.size := by simp
 refine ⟨rfl, rfl, rfl, by rw [hsz]; exact Nat.le_refl _, fun i hi hne => ?_⟩
 simp only [putRow, mapBlock, Sort.ahead, Array.getElem?_modify]
 rw [if_neg (fun e => hne (by rw [e]))]
theorem Reverse_row (g cap B : Nat) (ss : List (List UInt8)) (w : World) (ho : w.ownsRow B 9 1 (.slice (some ⟨g, 0, none⟩) ss.length cap) ss.length (ss.map st)) (hl : ss.length ≤ 1000) :
  Calls prog 67 #[.slice (some ⟨g, 0, none⟩) ss.length cap] w fun e w' => e = .returned (.tuple #[]) ∧ w.grownBy w' (some g) ∧ (∀ j s, ss.reverse[j]? = some s → w'.cell? ⟨g, j, none⟩ = some (st s)) := by
 rcases ho.2 with ⟨he, _⟩ | ⟨g', cap', cur, he, hB, hh, hc1, _, _, htk⟩
 ·cases he
 ·cases he
  have q : Bk w g 9 cur := hh
  have hH : Holds encStr w g 0 ss.toArray := fun j hj => by
   have hj' : j < ss.length := by simpa using hj
   have hc : cur[j]? = some (st ss[j]) := by
    have h1 : (ss.map st)[j]? = some (st ss[j]) := by rw [List.getElem?_map, List.getElem?_eq_getElem hj']; rfl
    rw [← htk, List.getElem?_take] at h1
    split at h1
    ·simpa using h1
    ·cases h1
   refine ⟨?_, by rw [Nat.zero_add]; exact q.frozen j⟩
   rw [Nat.zero_add, q.cell j, hc, getElem!_pos _ j hj]
   rfl
  refine (Tryz.slices_Reverse_string g 0 cap ss w hH (by omega)).mono ?_
  rintro e w' ⟨rfl, n, rfl⟩
  refine ⟨rfl, putRowS_gb _ _ _ _ _, fun j s hs => ?_⟩
  have hsz : ss.reverse.toArray.size = ss.toArray.size := by simp
  have hP := holds_putRow encStr (Sort.ahead w n) g 0 ss.toArray ss.reverse.toArray (holds_ahead _ _ _ _ _ _ hH) hsz
  have hj : j < ss.reverse.toArray.size := by simpa using (List.getElem?_eq_some_iff.1 hs).1
  have h1 := (hP j hj).1
  rw [Nat.zero_add] at h1
  rw [h1, getElem!_pos _ j hj]
  obtain ⟨hj2, rfl⟩ := List.getElem?_eq_some_iff.1 hs
  simp [encStr]
theorem Join_row (g cap : Nat) (xs : List (List UInt8)) (w : World) (hc : ∀ j s, xs[j]? = some s → w.cell? ⟨g, j, none⟩ = some (st s)) (hg : g < w.heap.size) (hl : xs.length ≤ 1000) (hcap : xs.length ≤ cap) (hf : xs.flatten.length ≤ 100000) :
  Calls prog 68 #[.slice (some ⟨g, 0, none⟩) xs.length cap, .string ⟨#[]⟩] w fun e w' => e = .returned (st xs.flatten) ∧ Below w.heap.size w w' := by
 have hm : (xs.map fun s => (⟨s.toArray⟩ : ByteArray)).map (fun b => b.data.toList) = xs := by rw [List.map_map, show ((fun b : ByteArray => b.data.toList) ∘ fun s : List UInt8 => (⟨s.toArray⟩ : ByteArray)) = id from by funext s; simp, List.map_id]
 have h := Tryz.strings_Join g 0 cap (xs.map fun s => ⟨s.toArray⟩) ⟨#[]⟩ w (fun j x hx => by
  rw [List.getElem?_map] at hx
  obtain ⟨s, hs, rfl⟩ := Option.map_eq_some_iff.1 hx
  rw [Nat.zero_add]; exact hc j s hs) hg (by simp; omega) (by simpa using hcap) (by rw [hm]; show (Lib.join xs []).length ≤ _; rw [join_flat]; omega)
 rw [hm] at h
 have hj : Lib.join xs (⟨#[]⟩ : ByteArray).data.toList = xs.flatten := join_flat xs
 rw [hj, List.length_map] at h
 exact h
theorem IV.len0 {W : World} {A : Option Addr} {n c z : Nat} (h : IV W (.slice A n c) z) : n = 0 ↔ z = 0 := by
 obtain ⟨ws, hc, hr⟩ := h
 obtain ⟨A', c', he, _⟩ := hr.at
 cases he
 constructor
 ·intro h0
  have : ws = [] := List.length_eq_zero_iff.1 h0
  subst this
  exact hc.val ▸ rfl
 ·rintro rfl
  rw [hc.zero]; rfl
theorem IV.lenle {W : World} {A : Option Addr} {n c z k : Nat} (h : IV W (.slice A n c) z) (hz : z < 4294967296 ^ k) : n ≤ k := by
 obtain ⟨ws, hc, hr⟩ := h
 obtain ⟨A', c', he, _⟩ := hr.at
 cases he
 exact hc.len hz
theorem Text_calls (sg : Bool) (z : Nat) (m : Value) (w : World) (hI : IV w m z) (hz : z < 10 ^ 200) (hs : sg = true → 0 < z) (hT : ItOK z w) :
  Calls prog 38 #[.agg #[.bool sg, m]] w fun e w' => e = .returned (.tuple #[st (txt sg z), .int .i64 0]) ∧ Below w.heap.size w w' := by
 obtain ⟨A, n, c, rfl⟩ := hI.slice
 have hn : n ≤ 21 := hI.lenle (Nat.lt_of_lt_of_le hz (by decide +kernel))
 have hn0 : n = 0 ↔ z = 0 := hI.len0
 have q0 := Bk.new w 42 #[.bool sg, .slice A n c]
 have hal := (Below.refl w.heap.size w).alloc (Nat.le_refl _) (.cells #[.bool sg, .slice A n c] 42)
 have hI1 := hI.kept hal
 by_cases h0 : z = 0
 ·subst h0
  obtain rfl : n = 0 := hn0.2 rfl
  have hsg : sg = false := by cases sg <;> simp_all
  subst hsg
  clear hI hT hI1
  have c0 := q0.cell 1
  have hl := q0.lt
  rw [show txt false 0 = [48] by rw [txt, if_neg (by simp), decD_small (by omega)]; rfl]
  go_enter func38, ntmps38
  go_wp2_with fail
  go_ret2
  exact ⟨rfl, hal⟩
 have hzp : 0 < z := by omega
 have hnp : 0 < n := by omega
 have HT := Lib.hid hT
 have HZ := Lib.hid hz
 have HS := Hi (And.intro hal q0)
 have HST := Hi (And.intro hzp (TextAt.start hzp))
 have hne : ((n : Int) == 0) = false := by simp; omega
 have hgt : decide ((n : Int) > 162) = false := by simp; omega
 have c0 := q0.cell 0
 have c1 := q0.cell 1
 have hl0 := q0.lt
 clear hI hz hT hs hzp h0 q0 hal
 go_enter func38, ntmps38
 go_wp2_with fail
 generalize w.alloc _ = W1 at *
 clear c0 c1 hne hgt
 go_loopg [4, 5, 6, 7, 8] z (fun zk pv mv _ _ _ wr => ∃ (ss : List (List UInt8)), wr.ownsRow (w.heap.size + 1) 9 1 pv ss.length (ss.map st) ∧ IV wr mv zk ∧ Hid (TextAt z zk ss.reverse.flatten ∧ zk ≤ z ∧ ss.length ≤ 30 ∧ (0 < zk → zk * 10 ^ (9 * ss.length) ≤ z) ∧ (zk = 0 → 0 < ss.length) ∧ Below w.heap.size w wr ∧ Bk wr w.heap.size 42 #[.bool sg, .slice A n c]))
 case atStart => exact ⟨[], ⟨by simp, .inl ⟨rfl, rfl⟩⟩, hI1, Lib.hid ⟨HST.out.2, Nat.le_refl _, by simp, fun _ => by simp, fun h => by have := HST.out.1; omega, HS.out.1, HS.out.2⟩⟩
 case round =>
  obtain ⟨ss, ho, hIk, HR⟩ := hrel
  obtain ⟨Ak, nk, ck, rfl⟩ := hIk.slice
  have hk0 : nk = 0 ↔ gk = 0 := hIk.len0
  by_cases hz0 : gk = 0
  ·obtain rfl : nk = 0 := hk0.2 hz0
   subst hz0
   have hTA := HR.out.1.done
   have hlen := HR.out.2.2.1
   have hpos := HR.out.2.2.2.2.1 rfl
   have hB := HR.out.2.2.2.2.2.1
   have q := HR.out.2.2.2.2.2.2
   have c0 := q.cell 0
   have hl1 := q.lt
   have hsl : (txt sg z).length ≤ 1000 := by have := txt_len sg (k := 199) HZ.out; omega
   obtain ⟨g, cap, rfl⟩ : ∃ g cap, u4 = .slice (some ⟨g, 0, none⟩) ss.length cap := by
    obtain ⟨k, hk⟩ : ∃ k, ss.length = k + 1 := ⟨ss.length - 1, by omega⟩
    rw [hk] at ho ⊢
    exact own_some ho
   have HTX := Hi (show ((if sg then ss ++ [[45]] else ss).reverse.flatten = txt sg z) by
    unfold txt
    rw [hTA]
    cases sg <;> simp)
   have HD := Hi (And.intro hTA (And.intro hlen (And.intro hB hsl)))
   have hBs := hB.size
   clear hTA hlen hB hsl HR hIk hk0
   have hss := HD.out.2.1
   go_upto_if 46 with (fail)
   go_cut [4] from 20 to 59 (fun dv wx => ∃ g cap, dv = .slice (some ⟨g, 0, none⟩) (if sg then ss ++ [[45]] else ss : List (List UInt8)).length cap ∧ wx.ownsRow (w.heap.size + 1) 9 1 dv (if sg then ss ++ [[45]] else ss : List (List UInt8)).length ((if sg then ss ++ [[45]] else ss).map st) ∧ Below w.heap.size w wx)
   case first =>
    cases sg with
    | false =>
     go_wp2_with fail
     go_meet
     case rel => exact ⟨g, cap, rfl, ho, HD.out.2.2.1⟩
    | true =>
     go_wp2_with (at_builtin; refine app T_str rfl _ _ rfl (w.heap.size + 1) (.slice (some ⟨g, 0, none⟩) ss.length cap) ss.length (ss.map st) rfl (ho.alloc _) wr.heap.size 0 1 1 [st [45]] rfl rfl (fun j u h => by simpa using cells_new wr [st [45]] 9 j u h) (fun u hu => by simp at hu; subst hu; rfl) (by omega) (by omega) (by simp; omega) ?_; intro v' w3 hown' hgrow hnil)
     obtain ⟨g', cap', rfl⟩ := own_some hown'
     go_meet
     case rel =>
      refine ⟨g', cap', by simp, by simpa using hown', (HD.out.2.2.1.alloc hBs _).grown hgrow (by simp; omega) (fun k hk => by have := (ho.lt k hk).1; omega)⟩
   case rest =>
    generalize wc = W4 at *
    obtain ⟨g5, cap5, rfl, ho5, hB5⟩ := hcut
    clear ho hBs
    have hsl5 : (if sg then ss ++ [[45]] else ss : List (List UInt8)).length ≤ 40 := by cases sg <;> simp <;> omega
    have HX := Hi (And.intro HTX.out HD.out.2.2.2)
    clear HTX HD
    generalize (if sg then ss ++ [[45]] else ss : List (List UInt8)) = SS at *
    have hgl := (ho5.lt g5 rfl).1
    have hgb := (ho5.lt g5 rfl).2
    have hcap := (own_cap ho5).1
    go_wp2_with fail
    refine (Reverse_row g5 cap5 _ SS W4 ho5 (by omega)).mono ?_
    rintro e w4 ⟨rfl, hg, hc⟩
    have hle := hB5.size
    have hB4 := hB5.grown hg (by omega) (fun k hk => by cases hk; omega)
    have hg4 := Nat.lt_of_lt_of_le hgb hg.size
    have HJ := Hi (Join_row g5 cap5 SS.reverse w4 hc hg4 (by simp; omega) (by simpa using hcap) (by rw [HX.out.1]; have := HX.out.2; omega))
    rw [List.length_reverse, HX.out.1] at HJ
    have HB := Lib.hid hB4
    obtain ⟨T, hT⟩ : ∃ T, T = txt sg z := ⟨_, rfl⟩
    have HT := Lib.hid hT
    have hTl := HX.out.2
    rw [← hT] at HJ hTl
    have hgt : decide ((T.length : Int) > 1300) = false := by simp; omega
    clear ho5 hg hc hT hB4 HX
    go_wp2_with fail
    refine HJ.out.mono ?_
    rintro e w5 ⟨rfl, hB6⟩
    dsimp only
    go_wp2_with fail
    exact bodyPost_ret (v := .tuple #[st T, .int .i64 0]) (by simp [results, results38, go_sem]) rfl ⟨by rw [HT.out], HB.out.trans (hB6.mono HB.out.size)⟩
  ·have hkp : 0 < nk := by omega
   have hne : decide ((nk : Int) > 0) = true := by simp; omega
   have hlz := HR.out.2.1
   have hln : ss.length ≤ 22 := by
    have h1 := HR.out.2.2.2.1 (by omega)
    have h2 := HZ.out
    have h3 : 10 ^ (9 * ss.length) ≤ gk * 10 ^ (9 * ss.length) := Nat.le_mul_of_pos_left _ (by omega)
    have h4 : 9 * ss.length < 200 := (Nat.pow_lt_pow_iff_right (by omega : 1 < 10)).1 (by omega)
    omega
   have HD := Hi (gdiv_calls gk 1000000000 21 _ wr hIk (Nat.lt_of_le_of_lt hlz (Nat.lt_of_lt_of_le HZ.out (by decide +kernel))) (by omega) (by omega) (by omega))
   have hr9 : gk % 1000000000 < 1000000000 := Nat.mod_lt _ (by omega)
   go_wp2_with fail
   refine HD.out.mono ?_
   rintro e w1 ⟨m', rfl, hIq, hB1⟩
   obtain ⟨Aq, nq, cq, rfl⟩ := hIq.slice
   have hq0 : nq = 0 ↔ gk / 1000000000 = 0 := hIq.len0
   have HI := Hi (HT.out (gk % 1000000000) w1 (Nat.le_trans (Nat.mod_le _ _) hlz) hr9 (HR.out.2.2.2.2.2.1.trans (hB1.mono HR.out.2.2.2.2.2.1.size)))
   go_wp2_with fail
   refine HI.out.mono ?_
   rintro e w2 ⟨rfl, hB2⟩
   have hIq2 := hIq.kept hB2
   have ho2 := ownsRow_kept ho (hB1.trans (hB2.mono hB1.size))
   have HB2 := Hi (HR.out.2.2.2.2.2.1.trans ((hB1.trans (hB2.mono hB1.size)).mono HR.out.2.2.2.2.2.1.size))
   have HQ2 := Hi (HR.out.2.2.2.2.2.2.kept (hB1.trans (hB2.mono hB1.size)))
   have hstep : ∀ S, (1000000000 ≤ gk → S = pad9 (gk % 1000000000)) → (gk < 1000000000 → S = Lib.decDigits (gk % 1000000000)) → TextAt z (gk / 1000000000) (ss ++ [S]).reverse.flatten := by
    intro S h1 h2
    rw [List.reverse_append, List.reverse_singleton, List.singleton_append, List.flatten_cons]
    rcases Nat.lt_or_ge gk 1000000000 with h | h
    ·rw [h2 h]; exact HR.out.1.last (by omega) h
    ·rw [h1 h]; exact HR.out.1.nine h
   have hpw : 0 < gk / 1000000000 → gk / 1000000000 * 10 ^ (9 * (ss.length + 1)) ≤ z := by
    intro _
    have h1 := HR.out.2.2.2.1 (by omega)
    have h2 : gk / 1000000000 * 1000000000 ≤ gk := Nat.div_mul_le_self _ _
    have h3 : gk / 1000000000 * 10 ^ (9 * (ss.length + 1)) = gk / 1000000000 * 1000000000 * 10 ^ (9 * ss.length) := by
     rw [Nat.mul_add, Nat.mul_one, Nat.pow_add, Nat.mul_comm (10 ^ (9 * ss.length)), ← Nat.mul_assoc]
    rw [h3]
    exact Nat.le_trans (Nat.mul_le_mul_right _ h2) h1
   have HST2 := Hi (And.intro hstep hpw)
   have hdl := decD_len (n := gk % 1000000000) (k := 8) (by omega)
   clear HD HI hIq hB1 hB2 ho hstep hpw
   by_cases hb : gk < 1000000000
   ·obtain rfl : nq = 0 := hq0.2 (by omega)
    obtain ⟨S, hS⟩ : ∃ S, S = Lib.decDigits (gk % 1000000000) := ⟨_, rfl⟩
    rw [← hS] at hdl ⊢
    have HS' := Lib.hid hS
    clear hS hq0 hk0 hn0
    go_wp2_with (at_builtin; refine app T_str rfl _ _ rfl (w.heap.size + 1) u4 ss.length (ss.map st) rfl (ho2.alloc _) w2.heap.size 0 1 1 [st S] rfl rfl (fun j u h => by simpa using cells_new w2 [st S] 9 j u h) (fun u hu => by simp at hu; subst hu; rfl) (by omega) (by omega) (by simp; have := HB2.out.size; omega) ?_; intro v' w3 hown' hgrow hnil)
    go_roundg (gk / 1000000000)
    case measure => omega
    case rel =>
     have hown2 : w3.ownsRow (w.heap.size + 1) 9 1 v' (ss ++ [S]).length ((ss ++ [S]).map st) := by simpa using hown'
     have htr := trP_row hgrow (fun r hr => (ownBlock_bk (ho2.alloc _) r hr).2)
     refine ⟨ss ++ [S], hown2, ?_, Lib.hid ⟨HST2.out.1 S (fun h => by omega) (fun _ => HS'.out), by have := HR.out.2.1; omega, by simp; omega, fun h => by simpa using HST2.out.2 h, fun _ => by simp, (HB2.out.alloc HB2.out.size _).grown hgrow (by simp; have := HB2.out.size; omega) (fun k hk => by have := (ho2.lt k hk).1; omega), htr _ _ _ (by decide) (HQ2.out.alloc _)⟩⟩
     rw [show gk / 1000000000 = 0 by omega]
     exact IV.nil _ _ _
   ·have hnq : 0 < nq := by
     rcases Nat.eq_zero_or_pos nq with h | h
     ·have := hq0.1 h; omega
     ·exact h
    have hgq : decide ((nq : Int) > 0) = true := by simp; omega
    have hI2 := Lib.hid hIq2
    obtain ⟨S0, hS⟩ : ∃ S, S = Lib.decDigits (gk % 1000000000) := ⟨_, rfl⟩
    rw [← hS] at hdl ⊢
    have HS' := Lib.hid hS
    have HRp := Hi (Repeat48 (9 - S0.length) w2 (by omega))
    rw [show (((9 - S0.length : Nat)) : Int) = 9 - (S0.length : Int) by omega] at HRp
    clear hS hq0 hk0 hn0
    go_wp2_with fail
    refine HRp.out.mono ?_
    rintro e w5 ⟨rfl, hB5⟩
    dsimp only
    have ho5 := ownsRow_kept ho2 hB5
    go_upto_region 12 with (fail)
    obtain ⟨S, hS⟩ : ∃ S, S = List.replicate (9 - S0.length) 48 ++ S0 := ⟨_, rfl⟩
    have hst : Value.string ((⟨Array.replicate (9 - S0.length) 48⟩ : ByteArray) ++ ⟨S0.toArray⟩) = st S := by
     have := ba_app (List.replicate (9 - S0.length) 48) S0
     rw [hS]
     simpa using congrArg Value.string this
    have HS9 := Hi (show S = pad9 (gk % 1000000000) by rw [hS, HS'.out]; rfl)
    rw [hst]
    have hB5' := hB5
    clear hS hst hB5
    go_wp2_with (at_builtin; refine app T_str rfl _ _ rfl (w.heap.size + 1) u4 ss.length (ss.map st) rfl (ho5.alloc _) w5.heap.size 0 1 1 [st S] rfl rfl (fun j u h => by simpa using cells_new w5 [st S] 9 j u h) (fun u hu => by simp at hu; subst hu; rfl) (by omega) (by omega) (by simp; have := HB2.out.size; have := hB5'.size; omega) ?_; intro v' w3 hown' hgrow hnil)
    go_roundg (gk / 1000000000)
    case measure =>
     omega
    case rel =>
     have hown2 : w3.ownsRow (w.heap.size + 1) 9 1 v' (ss ++ [S]).length ((ss ++ [S]).map st) := by simpa using hown'
     have htr := trP_row hgrow (fun r hr => (ownBlock_bk (ho5.alloc _) r hr).2)
     have hBB := HB2.out.trans (hB5'.mono HB2.out.size)
     refine ⟨ss ++ [S], hown2, htr.iv (by decide) ((hI2.out.kept hB5').kept ((Below.refl _ _).alloc (Nat.le_refl _) _)), Lib.hid ⟨HST2.out.1 S (fun _ => HS9.out) (fun h => by omega), by have := HR.out.2.1; have := Nat.div_le_self gk 1000000000; omega, by simp; omega, fun h => by simpa using HST2.out.2 h, fun _ => by simp, (hBB.alloc hBB.size _).grown hgrow (by simp; have := hBB.size; omega) (fun k hk => by have := (ho5.lt k hk).1; omega), htr _ _ _ (by decide) ((HQ2.out.kept hB5').alloc _)⟩⟩
end Go.Proofs.YthjilnnmahcnpaaGreatDoor
namespace Go.Proofs.YthjilnnmahcnpaaGreatDoor
open Go.RowKit Go.Shelf Go.Proofs.Tryz
set_option maxRecDepth 100000
set_option maxHeartbeats 4000000
theorem opApp {o : Oper} {a : Act} {K : Act → World → Prop} {Q : Exit → Act → World → Prop} {w : World} {t : TypeId} (s x : Operand)
  (ho : o.op = .call { callee := .builtin .append, args := #[s, x], argTypes := #[t, t] }) (v u : Value) (hs : a.eval s = v) (hx : a.eval x = u) {v' : Value} {w' : World}
  (hr : (Builtin.append_ #[t, t] o.type #[v, u]).run prog w = .ok v' w') (h : K (a.put o.dst v') w') : o.wp prog a w K Q := by
 unfold Oper.wp execOp
 simp only [ho, resolve, invoke, builtin, Sem.run_bind, Sem.run_pure, Result.andThen_ok, List.map_toArray, List.map_cons, List.map_nil, hs, hx, hr]
 exact h
theorem run_append_none0 {w : World} {base : Nat} {t ty e : TypeId} {i : TypeInfo} {size : Nat} (ht : Tryz.prog.underlying t = some (.slice e)) (hi : Tryz.prog.info? e = some i)
  {v : Value} {n c : Nat} {xs : List Value} (hown : w.ownsRow base e size v n xs) : (Builtin.append_ #[t, t] ty #[v, .slice none 0 c]).run prog w = .ok v w := by
 rcases hown.2 with ⟨rfl, rfl⟩ | ⟨g, cap, cur, rfl, _, _, hnc, _⟩
 ·simp [Builtin.append_, run_underlying ht, sizeOf, typeInfo, hi, Builtin.lenOf, Builtin.firstCells]
 ·simp [Builtin.append_, run_underlying ht, sizeOf, typeInfo, hi, Builtin.lenOf, Builtin.firstCells, hnc, storeCells]
theorem appRd {ops : Array Oper} {rest : List Oper} {o : Oper} {a : Act} {Q : Exit → Act → World → Prop} {w : World} {t e : TypeId} {z : Value} {size bytes : Nat} (T : ElemT t e z size bytes)
  (hgd : o.guard = none) (s x : Operand) (ho : o.op = .call { callee := .builtin .append, args := #[s, x], argTypes := #[t, t] })
  (base : Nat) (v : Value) (n : Nat) (xs : List Value) (hs : a.eval s = v) (hown : OwnS w base e size v n xs)
  (A : Option Addr) (m c : Nat) (news : List Value) (hx : a.eval x = .slice A m c) (hr : Rd w size (.slice A m c) m news) (h1 : ∀ u ∈ news, u.oneCell' = true)
  (hn : n + m ≤ 4000000) (hb : bytes ≤ 10000) (hbase : base ≤ w.heap.size)
  (h : ∀ v' w', OwnS w' base e size v' (n + m) (xs ++ news) → w.grownBy w' v.ownBlock → wpList prog ops Q rest (a.put o.dst v') w') : wpList prog ops Q (o :: rest) a w := by
 obtain ⟨hl, A', c', e1, hmc, hA⟩ := hr
 injection e1 with e1 e2 e3
 subst e1 e3
 cases A with
 | none =>
  have hm : m = 0 := by
   apply Classical.byContradiction
   intro hm
   obtain ⟨b, o, e, _⟩ := hA (by omega)
   cases e
  subst hm
  obtain rfl : news = [] := List.eq_nil_of_length_eq_zero (by simpa using hl)
  obtain ⟨i, hi, hz0, hz1, hz2⟩ := info_parts T.hi
  refine wpList_plain hgd fun _ hK => ?_
  exact opApp s x ho _ _ hs hx (run_append_none0 T.ht hi hown.own) (hK _ _ (h _ _ (by simpa using hown) ⟨rfl, rfl, rfl, Nat.le_refl _, fun _ _ _ => rfl⟩))
 | some ad =>
  obtain ⟨i, hi, hz0, hz1, hz2⟩ := info_parts T.hi
  have hown0 := hown.own
  refine wpList_append_own w hgd s x t ho base e i z size bytes T.ht hi hz0 hz1 hz2 T.hz T.pos v n xs hs hown0 ad m c news hx hl (fun j u hu => ?_) h1 (Nat.le_trans hn (by decide +kernel)) ?_ hbase (fun v' w' ho' hg hnil => ?_)
  ·rcases Nat.eq_zero_or_pos m with h0 | h0
   ·rw [h0, Nat.zero_mul] at hl
    rw [List.eq_nil_of_length_eq_zero hl] at hu
    simp at hu
   ·obtain ⟨b, o, ea, _, hc⟩ := hA h0
    obtain rfl : ad = ⟨b, o, none⟩ := Option.some.inj ea
    rw [addr_add]; exact hc j u hu
  ·have := Nat.mul_le_mul hn hb
   omega
  ·exact h v' w' (OwnS.grow ho' hnil hown.some_) hg
theorem bk_notrow {w : World} {g base size n : Nat} {t e : TypeId} {cs : Array Value} {v : Value} {xs : List Value} (q : Bk w g t cs) (h : w.ownsRow base e size v n xs) (hne : t ≠ e) : some g ≠ v.ownBlock := by
 rcases h.2 with ⟨rfl, _⟩ | ⟨g', cap', cur', rfl, _, hh', _⟩
 ·simp [Value.ownBlock]
 ·intro eq
  simp [Value.ownBlock] at eq
  subst eq
  exact Bk.ne q (show Bk w g e cur' from hh') hne rfl
theorem own_slc {w : World} {base size n : Nat} {e : TypeId} {v : Value} {xs : List Value} (h : w.ownsRow base e size v n xs) : ∃ A c, v = .slice A n c := by
  rcases h.2 with ⟨rfl, rfl⟩ | ⟨g, cap, _, rfl, _⟩
  · exact ⟨none, 0, rfl⟩
  · exact ⟨some ⟨g, 0, none⟩, cap, rfl⟩
def bys (s : List UInt8) : List Value := s.map fun b => .int .u8 (b.toNat : Int)
theorem bys_app (s t : List UInt8) : bys (s ++ t) = bys s ++ bys t := by simp [bys]
theorem bys_len (s : List UInt8) : (bys s).length = s.length := by simp [bys]
theorem own_bk {w : World} {B n : Nat} {v : Value} {D : List UInt8} (ho : w.ownsRow B 5 1 v n (bys D)) (hn : 0 < n) : ∃ (g c : Nat) (cur : Array Value), v = .slice (some ⟨g, 0, none⟩) n c ∧ B ≤ g ∧ Bk w g 5 cur ∧ ∀ (i : Nat) (x : UInt8), D[i]? = some x → cur[i]? = some (.int .u8 (x.toNat : Int)) := by
  rcases ho.2 with ⟨_, h⟩ | ⟨g, cap, cur, rfl, hB, hh, _, _, _, htk⟩
  · omega
  · refine ⟨g, cap, cur, rfl, hB, hh, fun i x hx => ?_⟩
    have h1 : (bys D)[i]? = some (.int .u8 (x.toNat : Int)) := by simp [bys, hx]
    rw [← htk, List.getElem?_take] at h1
    split at h1
    · simpa using h1
    · cases h1
theorem own_one {w : World} {base : Nat} (e : TypeId) (v : Value) (hb : base ≤ w.heap.size) : (w.alloc (.cells #[v] e)).ownsRow base e 1 (.slice (some ⟨w.heap.size, 0, none⟩) 1 1) 1 [v] :=
  ⟨by simp, .inr ⟨w.heap.size, 1, #[v], rfl, hb, heap_alloc_new w _, by simp, by simp [maxLen], by simp, by simp⟩⟩
def RevAt (z zk : Nat) (D : List UInt8) : Prop := (0 < zk ∧ Lib.decDigits z = Lib.decDigits zk ++ D.reverse) ∨ (zk = 0 ∧ ((D = [] ∧ z = 0) ∨ (D ≠ [] ∧ Lib.decDigits z = D.reverse)))
theorem RevAt.start (z : Nat) : RevAt z z [] := by
  rcases Nat.eq_zero_or_pos z with h | h
  · exact .inr ⟨h, .inl ⟨rfl, h⟩⟩
  · exact .inl ⟨h, by simp⟩
theorem RevAt.next {z zk : Nat} {D : List UInt8} (h : RevAt z zk D) (h0 : 0 < zk) : RevAt z (zk / 10) (D ++ [UInt8.ofNat (48 + zk % 10)]) := by
  rcases h with ⟨_, h⟩ | ⟨h, _⟩
  · by_cases h10 : zk < 10
    · refine .inr ⟨by omega, .inr ⟨by simp, ?_⟩⟩
      rw [h, decD_small h10, List.reverse_append, Nat.mod_eq_of_lt h10]
      rfl
    · refine .inl ⟨by omega, ?_⟩
      rw [h, decD_big h10, List.reverse_append, List.append_assoc]
      rfl
  · omega
def RowIn (a o : List Nat) (k : Nat) (cur : Array Value) : Prop := ∀ i x, (if i < k then a[i]? else o[i]?) = some x → cur[i]? = some (wd x)
theorem RowIn.next {a o : List Nat} {j v x : Nat} {cur : Array Value} (h : RowIn a o (j + 1) cur) (hx : a[j]? = some x) (hl : o.length = a.length) : RowIn a (o.set j v) j (cur.setIfInBounds j (wd v)) := by
  have hc := h j x (by rw [if_pos (by omega)]; exact hx)
  have hj : j < a.length := (List.getElem?_eq_some_iff.1 hx).1
  intro i y hy
  rcases Nat.lt_trichotomy i j with h1 | h1 | h1
  · rw [if_pos h1] at hy
    rw [Array.getElem?_setIfInBounds_ne (by omega)]
    exact h i y (by rw [if_pos (by omega)]; exact hy)
  · subst h1
    rw [if_neg (by omega), List.getElem?_set_self (by omega), Option.some.injEq] at hy
    subst hy
    exact Array.getElem?_setIfInBounds_self_of_lt (Array.getElem?_eq_some_iff.1 hc).1
  · rw [if_neg (by omega), List.getElem?_set_ne (by omega)] at hy
    rw [Array.getElem?_setIfInBounds_ne (by omega)]
    exact h i y (by rw [if_neg (by omega)]; exact hy)
theorem T_w32 : ElemT 22 81 (.int .u32 0) 1 4 := ⟨by kernel_rfl, by kernel_rfl, rfl, by decide⟩
theorem T_u8 : ElemT 47 5 (.int .u8 0) 1 1 := ⟨by kernel_rfl, by kernel_rfl, rfl, by decide⟩
theorem run_str_own {w : World} {base n : Nat} {v : Value} {s : List UInt8} (h : w.ownsRow base 5 1 v n (bys s)) : (convert 47 9 v).run prog w = .ok (st s) w := by
  have hu : Tryz.prog.underlying 47 = some (.slice 5) := by kernel_rfl
  have hb : Tryz.prog.underlying 5 = some (.int .u8) := by kernel_rfl
  have hs : Tryz.prog.underlying 9 = some .string := by kernel_rfl
  have hl := h.1
  rw [bys_len] at hl
  rcases h.2 with ⟨rfl, h0⟩ | ⟨g, cap, cur, rfl, _, hh, _, _, _, htk⟩
  · have : s = [] := List.eq_nil_of_length_eq_zero (by omega)
    subst this
    rw [run_convert_bytes_nil w _ _ hu hb 0 0 _ hs]
    rfl
  · have q : Bk w g 5 cur := hh
    have hx : ∀ i, i < n → w.cell? ⟨g, 0 + i, none⟩ = some (.int .u8 ((s.map fun b => (b.toNat : Int)).getD i 0)) := fun i hi => by
      have hi' : i < s.length := by omega
      have h1 : (bys s)[i]? = some (.int .u8 (s[i].toNat : Int)) := by simp [bys, hi']
      rw [Nat.zero_add, q.cell]
      rw [← htk, List.getElem?_take] at h1
      split at h1
      · rw [show cur[i]? = cur.toList[i]? by simp, h1]
        simp [hi']
      · cases h1
    rw [run_convert_bytes_arg w _ _ hu hb g 0 n cap (s.map fun b => (b.toNat : Int)) (by simp; omega) hx _ hs]
    unfold strOfNums
    simp [Function.comp_def]
theorem RText_calls (sg : Bool) (z : Nat) (m : Value) (w : World) (hI : IV w m z) (hz : z < 10 ^ 200) :
    Calls prog 40 #[.agg #[.bool sg, m]] w fun e w' => e = .returned (.tuple #[st (txt sg z), .int .i64 0]) ∧ Below w.heap.size w w' := by
  obtain ⟨A, n, c, rfl⟩ := hI.slice
  obtain ⟨ws, hcw, hr⟩ := hI
  have hwl : ws.length ≤ 21 := hcw.len (Nat.lt_of_lt_of_le hz (by decide +kernel))
  obtain rfl : n = ws.length := by obtain ⟨_, _, _, hv, _⟩ := hr; cases hv; rfl
  have q0 := Bk.new w 42 #[.bool sg, .slice A ws.length c]
  have hB0 := (Below.refl w.heap.size w).alloc (Nat.le_refl _) (.cells #[.bool sg, .slice A ws.length c] 42)
  have hO := (OwnS.made (base := w.heap.size + 1) (w.alloc (.cells #[.bool sg, .slice A ws.length c] 42)) 5 1 (by simp)).own
  rw [World.size_alloc] at hO
  have hB1 := hB0.alloc hB0.size (.cells #[] 5)
  have hr1 := hr.kept hB1
  have c1 := q0.cell 1
  have q1 := q0.alloc (.cells #[] 5)
  have hs1 : w.heap.size + 1 + 1 = ((w.alloc (.cells #[.bool sg, .slice A ws.length c] 42)).alloc (.cells #[] 5)).heap.size := by simp
  have hgt : decide ((ws.length : Int) > 200) = false := by simp; omega
  have hl0 := q0.lt
  have HZ := Lib.hid hz
  have HW := Lib.hid hcw
  have h1 : ∀ u ∈ ws.map wd, u.oneCell' = true := fun u hu => by obtain ⟨x, _, rfl⟩ := List.mem_map.1 hu; rfl
  have H1 := Lib.hid h1
  clear hr q0 hB0 hz hcw h1
  go_enter func40, ntmps40
  go_upto_region 4 with (fail)
  generalize (((w.alloc _).alloc _)) = W1 at *
  clear c1 hgt hl0
  have hO1 := OwnS.made (base := w.heap.size + 1) W1 81 1 (by omega)
  have hal := (Below.refl W1.heap.size W1).alloc (Nat.le_refl _) (.cells #[] 81)
  have hr2 := (hr1.kept hal).rd
  have q2 := q1.kept hal
  have ho2 := hO.alloc (.cells #[] 81)
  have hB2 := hB1.trans (hal.mono hB1.size)
  have c1 := q2.cell 1
  have hl0 := q2.lt
  have hs2 : W1.heap.size < (W1.alloc (.cells #[] 81)).heap.size := by simp
  clear hr1 q1 hO hB1 hal
  go_upto_region 5 with (at_builtin; go_must (refine appRd T_w32 rfl _ _ rfl (w.heap.size + 1) (.slice (some ⟨W1.heap.size, 0, none⟩) 0 0) 0 [] rfl hO1 A ws.length c (ws.map wd) rfl hr2 H1.out (by omega) (by omega) (by omega) ?_); intro v1 W3 hO3 hg3)
  generalize W1.alloc _ = W2 at *
  have q3 := q2.grown hg3 (by simp [Value.ownBlock]; omega)
  have ho3 := ho2.kept hg3 (.inr (by simp [Value.ownBlock]; omega))
  have hB3 := hB2.grown hg3 hB2.size (fun k hk => by simp [Value.ownBlock] at hk; omega)
  obtain ⟨g, cap, rfl, hO4⟩ := hO3
  have hcap := (own_cap hO4).1
  have hr3 : ∃ cur : Array Value, Bk W3 g 81 cur ∧ w.heap.size < g ∧ ∀ (i x : Nat), ws[i]? = some x → cur[i]? = some (wd x) := by
    rcases hO4.2 with ⟨he, _⟩ | ⟨g', cap', cur, he, hg', hh, _, _, _, htk⟩
    · cases he
    · cases he
      refine ⟨cur, hh, by omega, fun i x hx => ?_⟩
      have h1 : ([] ++ ws.map wd)[i]? = some (wd x) := by simp [hx]
      rw [← htk, List.getElem?_take] at h1
      split at h1
      · simpa using h1
      · cases h1
  obtain ⟨cur0, qg0, hgl0, hc0⟩ := hr3
  rw [Nat.zero_add] at hcap ⊢
  have HS := Hi (And.intro hc0 (And.intro q3 hB3))
  clear hO1 hr2 q2 ho2 hB2 c1 hl0 hs2 hg3 hO4 hc0 q3 hB3 hs1
  go_loopg [4, 5, 6, 7] z (fun zk dv lv _ _ wr => ∃ (D : List UInt8) (us : List Nat) (g c' : Nat) (cur : Array Value), lv = .slice (some ⟨g, 0, none⟩) us.length c' ∧ us.length ≤ c' ∧ us.length ≤ 21 ∧ wr.ownsRow (w.heap.size + 1) 5 1 dv D.length (bys D) ∧ Bk wr g 81 cur ∧ w.heap.size < g ∧ Hid (RevAt z zk D ∧ Cw us zk ∧ (∀ (i x : Nat), us[i]? = some x → cur[i]? = some (wd x)) ∧ D.length ≤ 200 ∧ (0 < zk → zk * 10 ^ D.length ≤ z) ∧ Bk wr w.heap.size 42 #[.bool sg, .slice A ws.length c] ∧ Below w.heap.size w wr))
  case atStart => exact ⟨[], ws, g, cap, cur0, rfl, hcap, hwl, ho3, qg0, hgl0, Lib.hid ⟨RevAt.start z, HW.out, HS.out.1, by simp, fun _ => by simp, HS.out.2.1, HS.out.2.2⟩⟩
  case round =>
    obtain ⟨D, us, g, c', cur, rfl, hcc, hul, hoD, qg, hgl, HR⟩ := hrel
    by_cases hz0 : gk = 0
    · subst hz0
      obtain rfl : us = [] := HR.out.2.1.zero
      have hRA : Lib.decDigits z = (if D = [] then [48] else D).reverse := by
        rcases HR.out.1 with ⟨h, _⟩ | ⟨_, ⟨rfl, rfl⟩ | ⟨h, e⟩⟩
        · omega
        · rw [if_pos rfl, decD_small (by omega)]; rfl
        · rw [if_neg h, e]
      have hDL : (if D = [] then [48] else D).length ≤ 200 := by
        by_cases h : D = []
        · rw [if_pos h]; simp
        · rw [if_neg h]; exact HR.out.2.2.2.1
      have HE := Hi (And.intro hRA hDL)
      clear hRA hDL
      obtain ⟨A4, c4, rfl⟩ := own_slc hoD
      go_upto_if 55 with (fail)
      go_cut [4] from 22 to 81 (fun dv wx => wx.ownsRow (w.heap.size + 1) 5 1 dv (if D = [] then [48] else D).length (bys (if D = [] then [48] else D)) ∧ Bk wx w.heap.size 42 #[.bool sg, .slice A ws.length c] ∧ Below w.heap.size w wx)
      case first =>
        by_cases h : D = []
        · subst h
          go_wp2_with fail
          go_meet
          case rel =>
            simp only [if_true]
            exact ⟨own_one 5 (.int .u8 48) (by have := HR.out.2.2.2.2.2.2.size; have := HR.out.2.2.2.2.2.1.lt; omega), HR.out.2.2.2.2.2.1.alloc _, HR.out.2.2.2.2.2.2.alloc HR.out.2.2.2.2.2.2.size _⟩
        · have hl : ((D.length : Int) == 0) = false := by simpa using h
          go_wp2_with fail
          go_meet
          case rel =>
            rw [if_neg h]
            exact ⟨hoD, HR.out.2.2.2.2.2.1, HR.out.2.2.2.2.2.2⟩
      case rest =>
        generalize wc = W4 at *
        obtain ⟨ho, q, hB⟩ := hcut
        have HD := Hi (And.intro HE.out.1 HE.out.2)
        have hDl := HE.out.2
        generalize (if D = [] then [48] else D) = D' at *
        clear HE hoD HR qg
        have hDp : 0 < D'.length := by
          have h1 := congrArg List.length HD.out.1
          rw [List.length_reverse] at h1
          have h2 := List.length_pos_iff.2 (decD_all z).2.2.1
          omega
        obtain ⟨gd, c5, cur5, rfl, hgd, q5, h5⟩ := own_bk ho hDp
        have H5 := Lib.hid h5
        have hO := (OwnS.made (base := W4.heap.size) W4 5 1 (Nat.le_refl _)).own
        have hB1 := hB.alloc hB.size (.cells #[] 5)
        have q6 := q5.alloc (.cells #[] 5)
        have c0 := (q.alloc (.cells #[] 5)).cell 0
        have hl1 := (q.alloc (.cells #[] 5)).lt
        have hgl1 := q5.lt
        have hBz := hB.size
        obtain ⟨dl, hdl⟩ : ∃ dl, dl = D'.length := ⟨_, rfl⟩
        have HDL := Lib.hid hdl
        rw [← hdl] at hDl hDp ⊢
        clear hdl ho q h5 q5 hB
        go_upto_if 59 with (fail)
        go_cut [8] from 22 to 81 (fun ov wx => wx.ownsRow W4.heap.size 5 1 ov (if sg then [45] else [] : List UInt8).length (bys (if sg then [45] else [])) ∧ Bk wx gd 5 cur5 ∧ Below w.heap.size w wx ∧ W4.heap.size ≤ wx.heap.size)
        case first =>
          have hw5 : W4.heap.size < (W4.alloc (.cells #[] 5)).heap.size := by simp
          generalize W4.alloc _ = W5 at *
          cases sg with
          | false =>
            go_wp2_with fail
            go_meet
            case rel => exact ⟨hO, q6, hB1, by omega⟩
          | true =>
            go_wp2_with (at_builtin; refine app T_u8 rfl _ _ rfl W4.heap.size (.slice (some ⟨W4.heap.size, 0, none⟩) 0 0) 0 [] rfl (hO.alloc _) W5.heap.size 0 1 1 [.int .u8 45] rfl rfl (fun j u h => by simpa using cells_new W5 [.int .u8 45] 5 j u h) (fun u hu => by simp at hu; subst hu; rfl) (by omega) (by omega) (by simp; omega) ?_; intro v' w3 hown' hgrow hnil)
            go_meet
            case rel =>
              refine ⟨hown', (q6.alloc _).grown hgrow (by simp [Value.ownBlock]; omega), (hB1.alloc hB1.size _).grown hgrow (by simp; have := hB1.size; omega) (fun k hk => by simp [Value.ownBlock] at hk; omega), by have := hgrow.size; simp at this; omega⟩
        case rest =>
          obtain ⟨hov, q7, hB7, hw7⟩ := hcut
          clear hO hB1 q6 c0 hl1
          obtain ⟨pre, hpre⟩ : ∃ pre : List UInt8, pre = if sg then [45] else [] := ⟨_, rfl⟩
          rw [← hpre] at hov
          have HP := Hi (show pre ++ D'.reverse = txt sg z by rw [hpre, ← HD.out.1]; rfl)
          have hpl : pre.length ≤ 1 := by rw [hpre]; cases sg <;> simp
          clear hpre
          obtain ⟨A7, c7, hA7⟩ := own_slc hov
          go_upto_region 21 with (fail)
          go_loopw [8, 9] (fun ov iv wr => ∃ k : Nat, iv = .int .i64 ((k : Int) - 1) ∧ k ≤ dl ∧ wr.ownsRow W4.heap.size 5 1 ov (pre ++ (D'.drop k).reverse).length (bys (pre ++ (D'.drop k).reverse)) ∧ Bk wr gd 5 cur5 ∧ Hid (Below w.heap.size w wr ∧ W4.heap.size ≤ wr.heap.size)) (fun _ iv _ => (intOf iv + 1).toNat)
          case atStart => exact ⟨dl, rfl, Nat.le_refl _, by rw [HDL.out, List.drop_length]; simpa using hov, q7, Lib.hid ⟨hB7, hw7⟩⟩
          case round =>
            obtain ⟨k, rfl, hk, ho, q, HB⟩ := hrel
            obtain ⟨A8, c8, rfl⟩ := own_slc ho
            rcases k with _ | j
            · have hcv := run_str_own ho
              rw [List.drop_zero, HP.out] at ho hcv ⊢
              have hlen : (txt sg z).length ≤ 1000 := by have := txt_len sg (k := 199) HZ.out; omega
              have hgt : decide (((txt sg z).length : Int) > 1300) = false := by simp; omega
              rw [show (((0 : Nat) : Int) - 1) = -1 from rfl]
              obtain ⟨T, hT⟩ : ∃ T, T = txt sg z := ⟨_, rfl⟩
              have HT := Lib.hid hT
              rw [← hT] at ho hcv hgt hlen ⊢
              clear hT
              go_wp2_with fail
              exact bodyPost_ret (v := .tuple #[st T, .int .i64 0]) (by simp [results, results40, go_sem]) rfl ⟨by rw [HT.out], HB.out.1⟩
            · obtain ⟨x, hx⟩ : ∃ x, D'[j]? = some x := ⟨_, List.getElem?_eq_getElem (by have := HDL.out; omega)⟩
              have d1 := q.cell j
              rw [H5.out j x hx] at d1
              have dlt := q.lt
              have hll : (pre ++ (D'.drop (j + 1)).reverse).length ≤ 300 := by simp; have := HDL.out; omega
              have HN := Hi (show pre ++ (D'.drop j).reverse = (pre ++ (D'.drop (j + 1)).reverse) ++ [x] by
                rw [List.drop_eq_getElem_cons (by have := HDL.out; omega), List.reverse_cons, List.append_assoc]
                rw [(List.getElem?_eq_some_iff.1 hx).2])
              rw [show (((j + 1 : Nat) : Int) - 1) = (j : Int) by omega]
              generalize pre ++ (D'.drop (j + 1)).reverse = T at *
              clear hx
              go_wp2_with (at_builtin; refine app T_u8 rfl _ _ rfl W4.heap.size (.slice A8 T.length c8) T.length (bys T) rfl (ho.alloc _) wr.heap.size 0 1 1 [.int .u8 (x.toNat : Int)] rfl rfl (fun j u h => by simpa using cells_new wr [.int .u8 (x.toNat : Int)] 5 j u h) (fun u hu => by simp at hu; subst hu; rfl) (by omega) (by omega) (by simp; have := HB.out.2; omega) ?_; intro v' w3 hown' hgrow hnil)
              have hal := HB.out.1.alloc HB.out.1.size (.cells #[.int .u8 (x.toNat : Int)] 5)
              go_roundw
              case rel =>
                (repeat apply Exists.intro)
                refine ⟨⟨j, rfl, by omega, ?_, (q.alloc _).grown hgrow ?_, Lib.hid ⟨hal.grown hgrow (by have := HB.out.1.size; simp; omega) (fun k hk => by have := (ho.lt k hk).1; have := HB.out.1.size; omega), by have h1 := hgrow.size; have h2 := HB.out.2; simp at h1; omega⟩⟩, rfl⟩
                · rw [HN.out, bys_app, List.length_append]
                  exact hown'
                · intro e
                  have := (ho.lt gd e.symm).1
                  omega
              case measure => simp [intOf]
    · have hup : 0 < us.length := HR.out.2.1.pos (by omega)
      have hgt : decide ((us.length : Int) > 0) = true := by simp; omega
      have HU := Hi (show ∀ x ∈ us, x < 4294967296 from HR.out.2.1.lt)
      have HV := Hi (show vW us = gk from HR.out.2.1.val)
      have HS2 := Hi (show RowIn us (List.replicate us.length 0) us.length cur from fun i x hx => HR.out.2.2.1 i x (by
        rcases Nat.lt_or_ge i us.length with h | h
        · rwa [if_pos h] at hx
        · rw [if_neg (by omega), List.getElem?_eq_none (by simpa using h)] at hx; cases hx))
      obtain ⟨lu, hlu⟩ : ∃ lu, lu = us.length := ⟨_, rfl⟩
      have HLU := Lib.hid hlu
      rw [← hlu] at hgt hup hul hcc HS2 ⊢
      clear hlu
      go_upto_region 8 with (fail)
      go_loopw [6, 7] (fun rv iv wi => ∃ (k r : Nat) (o : List Nat) (cu : Array Value), iv = .int .i64 ((k : Int) - 1) ∧ rv = .int .u64 r ∧ k ≤ lu ∧ r < 10 ∧ wi.ownsRow (w.heap.size + 1) 5 1 u4 D.length (bys D) ∧ Bk wi g 81 cu ∧ Hid (DivAt us o 10 k r ∧ RowIn us o k cu ∧ Bk wi w.heap.size 42 #[.bool sg, .slice A ws.length c] ∧ Below w.heap.size w wi)) (fun _ iv _ => (intOf iv + 1).toNat)
      case atStart => exact ⟨lu, 0, _, cur, rfl, rfl, Nat.le_refl _, by omega, hoD, qg, Lib.hid ⟨by have := DivAt.start us (d := 10) (by omega); rwa [← HLU.out] at this, HS2.out, HR.out.2.2.2.2.2.1, HR.out.2.2.2.2.2.2⟩⟩
      case round =>
        obtain ⟨k, r, o, cu, rfl, rfl, hk, hr10, ho, q, HI⟩ := hrel
        rcases k with _ | j
        · obtain ⟨hd1, rfl⟩ := HI.out.1.done
          rw [HV.out] at hd1 hr10 ⊢
          have hlo : o.length = lu := by rw [HLU.out]; exact HI.out.1.len
          rw [show (((0 : Nat) : Int) - 1) = -1 from rfl]
          obtain ⟨r, hr⟩ : ∃ r, r = gk % 10 := ⟨_, rfl⟩
          rw [← hr] at hr10 ⊢
          have HD := Hi (And.intro hd1 (And.intro hlo hr))
          have hdl := HR.out.2.2.2.1
          have hDl : D.length < 200 := by
            have h1 := HR.out.2.2.2.2.1 (by omega)
            have h2 := HZ.out
            have h3 : 10 ^ D.length ≤ gk * 10 ^ D.length := Nat.le_mul_of_pos_left _ (by omega)
            exact (Nat.pow_lt_pow_iff_right (by omega : 1 < 10)).1 (by omega)
          have qn := q.alloc (.cells #[.int .u8 (48 + (r : Int))] 5)
          clear hd1 hlo hr
          go_wp2_with (at_builtin; refine app T_u8 rfl _ _ rfl (w.heap.size + 1) u4 D.length (bys D) rfl (ho.alloc _) wr.heap.size 0 1 1 [.int .u8 (48 + (r : Int))] rfl rfl (fun j u h => by simpa using cells_new wr [.int .u8 (48 + (r : Int))] 5 j u h) (fun u hu => by simp at hu; subst hu; rfl) (by omega) (by omega) (by simp; have := HI.out.2.2.2.size; omega) ?_; intro v' w3 hown' hgrow hnil)
          have q3 := qn.grown hgrow (bk_notrow qn (ho.alloc _) (by decide))
          have qb := HI.out.2.2.1.alloc (.cells #[.int .u8 (48 + (r : Int))] 5)
          have qb3 := qb.grown hgrow (bk_notrow qb (ho.alloc _) (by decide))
          have hB3 := (HI.out.2.2.2.alloc HI.out.2.2.2.size (.cells #[.int .u8 (48 + (r : Int))] 5)).grown hgrow (by simp; have := HI.out.2.2.2.size; omega) (fun k hk => by have := (ho.lt k hk).1; omega)
          have hcu : ∀ (i x : Nat), o[i]? = some x → cu[i]? = some (wd x) := fun i x h => HI.out.2.1 i x (by rw [if_neg (by omega)]; exact h)
          have hR : Rd w3 1 (.slice (some ⟨g, 0, none⟩) o.length c') o.length (o.map wd) := ⟨by simp, _, _, rfl, by rw [HD.out.2.1]; exact hcc, fun _ => ⟨_, _, rfl, q3.lt, fun i u hu => by
            rw [List.getElem?_map] at hu
            obtain ⟨x, hx, rfl⟩ := Option.map_eq_some_iff.1 hu
            rw [Nat.zero_add, q3.cell]; exact hcu i x hx⟩⟩
          have HT := trim_calls o (some ⟨g, 0, none⟩) c' w3 hR (by rw [HD.out.2.1]; omega)
          rw [HD.out.2.1] at HT
          refine HT.mono ?_
          rintro e w4 ⟨rfl, rfl⟩
          have HF := Hi (And.intro hcu (And.intro qb3 (And.intro hB3 (And.intro hown' q3))))
          clear hcu hR HT qb3 hB3 q3 hown' hgrow hnil qn qb ho q
          go_wp2_with fail
          go_roundg (gk / 10)
          case measure => omega
          case rel =>
            have hdg := digB_dec (n := r) hr10
            have htl := trimL_len o
            rw [HD.out.2.1] at htl
            refine ⟨D ++ [UInt8.ofNat (48 + r)], trimL o, g, c', cu, rfl, by omega, by omega, ?_, HF.out.2.2.2.2, hgl, Lib.hid ⟨?_, ?_, ?_, by simp; omega, ?_, HF.out.2.1, HF.out.2.2.1⟩⟩
            · rw [bys_app, List.length_append]
              have : bys [UInt8.ofNat (48 + r)] = [.int .u8 (48 + (r : Int))] := by
                show [Value.int .u8 (((UInt8.ofNat (48 + r)).toNat : Nat) : Int)] = _
                rw [hdg.2, Int.natCast_add]
                rfl
              rw [this]
              exact HF.out.2.2.2.1
            · rw [HD.out.2.2]; exact HR.out.1.next (by omega)
            · have := Cw.of (ws := o) HI.out.1.lt
              rwa [HD.out.1] at this
            · intro i x hx
              obtain ⟨t, ht⟩ := trimL_prefix o
              refine HF.out.1 i x ?_
              rw [ht, List.getElem?_append_left (List.getElem?_eq_some_iff.1 hx).1]
              exact hx
            · intro h0
              have h1 := HR.out.2.2.2.2.1 (by omega)
              rw [List.length_append, List.length_singleton, Nat.pow_succ, Nat.mul_comm (10 ^ D.length), ← Nat.mul_assoc]
              exact Nat.le_trans (Nat.mul_le_mul_right _ (Nat.div_mul_le_self gk 10)) h1
        · obtain ⟨x, hx⟩ : ∃ x, us[j]? = some x := ⟨_, List.getElem?_eq_getElem (by have := HLU.out; omega)⟩
          have hxl := HU.out x (List.mem_of_getElem? hx)
          have hcx := HI.out.2.1 j x (by rw [if_pos (by omega)]; exact hx)
          have d1 := q.cell j
          rw [hcx] at d1
          have dz := q.frozen j
          have dl := q.lt
          have hor := or_low r x hxl
          rw [show IntKind.u64.wrap ((r : Int) * 4294967296) = (r : Int) * 4294967296 from IntWalk.u64_in _ ⟨by omega, by omega⟩, show IntKind.u64.wrap (x : Int) = (x : Int) from IntWalk.u64_in _ ⟨by omega, by omega⟩, Nat.mod_eq_of_lt (show r * 4294967296 < 18446744073709551616 by omega)] at hor
          have HX := Lib.hid hx
          have hnx := Hi (HI.out.1.next hx hxl)
          have hrn := Hi (HI.out.2.1.next (v := (r * 4294967296 + x) / 10) hx HI.out.1.len)
          obtain ⟨y, hy⟩ : ∃ y, y = r * 4294967296 + x := ⟨_, rfl⟩
          rw [← hy] at hor hnx hrn
          have hyl : y < 42949672960 := by omega
          have hy10 : y / 10 < 4294967296 := by omega
          have ht1 : (y : Int).tdiv 10 = ((y / 10 : Nat) : Int) := by rw [Int.tdiv_eq_ediv_of_nonneg (by omega)]; rfl
          have ht2 : (y : Int).tmod 10 = ((y % 10 : Nat) : Int) := by rw [Int.tmod_eq_emod_of_nonneg (by omega)]; rfl
          rw [show (((j + 1 : Nat) : Int) - 1) = (j : Int) by omega]
          clear hx hcx hy
          go_wp2_with fail
          have e1 : Value.int .u32 ((y : Int) / 10) = wd (y / 10) := rfl
          have e2 : Value.int .u64 ((y : Int) % 10) = .int .u64 ((y % 10 : Nat) : Int) := rfl
          rw [e1, e2]
          refine ⟨⟨j, y % 10, _, _, rfl, rfl, by omega, by omega, (trP_set q j (wd (y / 10))).own (by decide) ho, q.put j (wd (y / 10)), Lib.hid ⟨hnx.out, hrn.out, trP_set q j (wd (y / 10)) _ _ _ (by decide) HI.out.2.2.1, HI.out.2.2.2.setCell (by simp; omega) _⟩⟩, by simp [intOf]⟩
end Go.Proofs.YthjilnnmahcnpaaGreatDoor
