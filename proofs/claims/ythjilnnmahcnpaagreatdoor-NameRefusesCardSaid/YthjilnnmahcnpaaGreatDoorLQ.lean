/- The text of a number. -/
import Derived.Test.YthjilnnmahcnpaaGreatDoorLI
import Derived.Test.YthjilnnmahcnpaaGreatDoorLL
import Derived.Deep.LoopGhost
import Derived.Deep.CutRange
import Derived.Deep.DeepCutAuto
namespace Go.Proofs.YthjilnnmahcnpaaGreatDoor
open Go.RowKit Go.Shelf Go.Sort

/-- Itoa writes the numbers up to a bound -/
def ItOK (z : Nat) (w : World) : Prop := ∀ (r : Nat) (W : World), r ≤ z → r < 1000000000 → Below w.heap.size w W → Calls Tryz.prog 65 #[.int .i64 (r : Nat)] W fun e w' => e = .returned (st (Lib.decDigits r)) ∧ Below W.heap.size W w'
theorem itOK_small {z : Nat} (h : z < 100) (w : World) : ItOK z w := fun r W hr _ _ => (Tryz.strconv_Itoa_small r (by omega) W).mono fun e w' ⟨he, hw⟩ => ⟨he, hw ▸ Below.refl _ _⟩
theorem ItOK.kept {z : Nat} {w W : World} (h : ItOK z w) (hB : Below w.heap.size w W) : ItOK z W := fun r X h1 h2 h3 => h r X h1 h2 (hB.trans (h3.mono hB.size))
theorem repeatL_one48 : ∀ c, Lib.repeatL [48] c = List.replicate c 48
  | 0 => rfl
  | c + 1 => by rw [Lib.repeatL, repeatL_one48 c]; rfl
theorem Repeat48 (c : Nat) (W : World) (hc : c ≤ 9) : Calls Tryz.prog 66 #[st [48], .int .i64 c] W fun e w' => e = .returned (st (List.replicate c 48)) ∧ Below W.heap.size W w' :=
  (Tryz.strings_Repeat ⟨#[48]⟩ c W (by omega) (by simp [ByteArray.size]; omega)).mono fun e w' ⟨he, hw⟩ => ⟨by rw [he, ← repeatL_one48], hw⟩
theorem join_flat (l : List (List UInt8)) : Lib.join l [] = l.flatten := by
  induction l with
  | nil => rfl
  | cons x r ih => rw [Lib.join_cons]; simp [Lib.joinTail]
theorem putRowS_gb (w : World) (blk off n : Nat) (dk : Array (List UInt8)) : w.grownBy (putRow encStr (Sort.ahead w n) blk off dk) (some blk) := by
  have hsz : (putRow encStr (Sort.ahead w n) blk off dk).heap.size = w.heap.size := by simp
  refine ⟨rfl, rfl, rfl, by rw [hsz]; exact Nat.le_refl _, fun i hi hne => ?_⟩
  simp only [putRow, mapBlock, Sort.ahead, Array.getElem?_modify]
  rw [if_neg (fun e => hne (by rw [e]))]
/-- a row of strings, turned round -/
theorem Reverse_row (g cap B : Nat) (ss : List (List UInt8)) (w : World) (ho : w.ownsRow B 9 1 (.slice (some ⟨g, 0, none⟩) ss.length cap) ss.length (ss.map st)) (hl : ss.length ≤ 1000) :
    Calls Tryz.prog 67 #[.slice (some ⟨g, 0, none⟩) ss.length cap] w fun e w' => e = .returned (.tuple #[]) ∧ w.grownBy w' (some g) ∧ (∀ j s, ss.reverse[j]? = some s → w'.cell? ⟨g, j, none⟩ = some (st s)) := by
  rcases ho.2 with ⟨he, _⟩ | ⟨g', cap', cur, he, hB, hh, hc1, _, _, htk⟩
  · cases he
  · cases he
    have q : Bk w g 9 cur := hh
    have hH : Holds encStr w g 0 ss.toArray := fun j hj => by
      have hj' : j < ss.length := by simpa using hj
      have hc : cur[j]? = some (st ss[j]) := by
        have h1 : (ss.map st)[j]? = some (st ss[j]) := by rw [List.getElem?_map, List.getElem?_eq_getElem hj']; rfl
        rw [← htk, List.getElem?_take] at h1
        split at h1
        · simpa using h1
        · cases h1
      refine ⟨?_, by rw [Nat.zero_add]; exact q.frozen j⟩
      rw [Nat.zero_add, q.cell j, hc, getElem!_pos _ j hj]
      rfl
    refine (Tryz.slices_Reverse_string g 0 cap ss w hH (by omega)).mono ?_
    rintro e w' ⟨rfl, n, rfl⟩
    refine ⟨rfl, putRowS_gb _ _ _ _ _, fun j s hs => ?_⟩
    have hsz : ss.reverse.toArray.size = ss.toArray.size := by simp
    have hP := holds_putRow encStr (Sort.ahead w n) g 0 ss.toArray ss.reverse.toArray (holds_ahead _ _ _ _ _ _ hH) hsz
    have hj : j < ss.reverse.toArray.size := by simpa using (List.getElem?_eq_some_iff.1 hs).1
    have h1 := (hP j hj).1
    rw [Nat.zero_add] at h1
    rw [h1, getElem!_pos _ j hj]
    obtain ⟨hj2, rfl⟩ := List.getElem?_eq_some_iff.1 hs
    simp [encStr]
theorem Join_row (g cap : Nat) (xs : List (List UInt8)) (w : World) (hc : ∀ j s, xs[j]? = some s → w.cell? ⟨g, j, none⟩ = some (st s)) (hg : g < w.heap.size) (hl : xs.length ≤ 1000) (hcap : xs.length ≤ cap) (hf : xs.flatten.length ≤ 100000) :
    Calls Tryz.prog 68 #[.slice (some ⟨g, 0, none⟩) xs.length cap, .string ⟨#[]⟩] w fun e w' => e = .returned (st xs.flatten) ∧ Below w.heap.size w w' := by
  have hm : (xs.map fun s => (⟨s.toArray⟩ : ByteArray)).map (fun b => b.data.toList) = xs := by rw [List.map_map, show ((fun b : ByteArray => b.data.toList) ∘ fun s : List UInt8 => (⟨s.toArray⟩ : ByteArray)) = id from by funext s; simp, List.map_id]
  have h := Tryz.strings_Join g 0 cap (xs.map fun s => ⟨s.toArray⟩) ⟨#[]⟩ w (fun j x hx => by
    rw [List.getElem?_map] at hx
    obtain ⟨s, hs, rfl⟩ := Option.map_eq_some_iff.1 hx
    rw [Nat.zero_add]; exact hc j s hs) hg (by simp; omega) (by simpa using hcap) (by rw [hm]; show (Lib.join xs []).length ≤ _; rw [join_flat]; omega)
  rw [hm] at h
  have hj : Lib.join xs (⟨#[]⟩ : ByteArray).data.toList = xs.flatten := join_flat xs
  rw [hj, List.length_map] at h
  exact h
theorem IV.len0 {W : World} {A : Option Addr} {n c z : Nat} (h : IV W (.slice A n c) z) : n = 0 ↔ z = 0 := by
  obtain ⟨ws, hc, hr⟩ := h
  obtain ⟨A', c', he, _⟩ := hr.at
  cases he
  constructor
  · intro h0
    have : ws = [] := List.length_eq_zero_iff.1 h0
    subst this
    exact hc.val ▸ rfl
  · rintro rfl
    rw [hc.zero]; rfl
theorem IV.lenle {W : World} {A : Option Addr} {n c z k : Nat} (h : IV W (.slice A n c) z) (hz : z < 4294967296 ^ k) : n ≤ k := by
  obtain ⟨ws, hc, hr⟩ := h
  obtain ⟨A', c', he, _⟩ := hr.at
  cases he
  exact hc.len hz

set_option maxRecDepth 100000 in
set_option maxHeartbeats 2000000 in
theorem Text_calls (sg : Bool) (z : Nat) (m : Value) (w : World) (hI : IV w m z) (hz : z < 10 ^ 200) (hs : sg = true → 0 < z) (hT : ItOK z w) :
    Calls Tryz.prog 38 #[.agg #[.bool sg, m]] w fun e w' => e = .returned (.tuple #[st (txt sg z), .int .i64 0]) ∧ Below w.heap.size w w' := by
  obtain ⟨A, n, c, rfl⟩ := hI.slice
  have hn : n ≤ 21 := hI.lenle (Nat.lt_of_lt_of_le hz (by decide +kernel))
  have hn0 : n = 0 ↔ z = 0 := hI.len0
  have q0 := Bk.new w 42 #[.bool sg, .slice A n c]
  have hal := (Below.refl w.heap.size w).alloc (Nat.le_refl _) (.cells #[.bool sg, .slice A n c] 42)
  have hI1 := hI.kept hal
  by_cases h0 : z = 0
  · subst h0
    obtain rfl : n = 0 := hn0.2 rfl
    have hsg : sg = false := by cases sg <;> simp_all
    subst hsg
    clear hI hT hI1
    have c0 := q0.cell 1
    have hl := q0.lt
    rw [show txt false 0 = [48] by rw [txt, if_neg (by simp), decD_small (by omega)]; rfl]
    go_enter Tryz.func38, Tryz.ntmps38
    go_wp2_with fail
    go_ret2
    exact ⟨rfl, hal⟩
  have hzp : 0 < z := by omega
  have hnp : 0 < n := by omega
  have HT := Lib.hid hT
  have HZ := Lib.hid hz
  have HS := Lib.hid (And.intro hal q0)
  have HST := Lib.hid (And.intro hzp (TextAt.start hzp))
  have hne : ((n : Int) == 0) = false := by simp; omega
  have hgt : decide ((n : Int) > 162) = false := by simp; omega
  have c0 := q0.cell 0
  have c1 := q0.cell 1
  have hl0 := q0.lt
  clear hI hz hT hs hzp h0 q0 hal
  go_enter Tryz.func38, Tryz.ntmps38
  go_wp2_with fail
  generalize w.alloc (.cells #[.bool sg, .slice A n c] 42) = W1 at *
  clear c0 c1 hne hgt
  go_loopg [4, 5, 6, 7, 8] z (fun zk pv mv _ _ _ wr => ∃ (ss : List (List UInt8)), wr.ownsRow (w.heap.size + 1) 9 1 pv ss.length (ss.map st) ∧ IV wr mv zk ∧ Hid (TextAt z zk ss.reverse.flatten ∧ zk ≤ z ∧ ss.length ≤ 30 ∧ (0 < zk → zk * 10 ^ (9 * ss.length) ≤ z) ∧ (zk = 0 → 0 < ss.length) ∧ Below w.heap.size w wr ∧ Bk wr w.heap.size 42 #[.bool sg, .slice A n c]))
  case atStart => exact ⟨[], ⟨by simp, .inl ⟨rfl, rfl⟩⟩, hI1, Lib.hid ⟨HST.out.2, Nat.le_refl _, by simp, fun _ => by simp, fun h => by have := HST.out.1; omega, HS.out.1, HS.out.2⟩⟩
  case round =>
    obtain ⟨ss, ho, hIk, HR⟩ := hrel
    obtain ⟨Ak, nk, ck, rfl⟩ := hIk.slice
    have hk0 : nk = 0 ↔ gk = 0 := hIk.len0
    by_cases hz0 : gk = 0
    · obtain rfl : nk = 0 := hk0.2 hz0
      subst hz0
      have hTA := HR.out.1.done
      have hlen := HR.out.2.2.1
      have hpos := HR.out.2.2.2.2.1 rfl
      have hB := HR.out.2.2.2.2.2.1
      have q := HR.out.2.2.2.2.2.2
      have c0 := q.cell 0
      have hl1 := q.lt
      have hsl : (txt sg z).length ≤ 1000 := by have := txt_len sg (k := 199) HZ.out; omega
      obtain ⟨g, cap, rfl⟩ : ∃ g cap, u4 = .slice (some ⟨g, 0, none⟩) ss.length cap := by
        obtain ⟨k, hk⟩ : ∃ k, ss.length = k + 1 := ⟨ss.length - 1, by omega⟩
        rw [hk] at ho ⊢
        exact own_some ho
      have HTX := Lib.hid (show ((if sg then ss ++ [[45]] else ss).reverse.flatten = txt sg z) by
        unfold txt
        rw [hTA]
        cases sg <;> simp)
      have HD := Lib.hid (And.intro hTA (And.intro hlen (And.intro hB hsl)))
      have hBs := hB.size
      clear hTA hlen hB hsl HR hIk hk0
      have hss := HD.out.2.1
      go_upto_if 46 with (fail)
      go_cut [4] from 20 to 59 (fun dv wx => ∃ g cap, dv = .slice (some ⟨g, 0, none⟩) (if sg then ss ++ [[45]] else ss : List (List UInt8)).length cap ∧ wx.ownsRow (w.heap.size + 1) 9 1 dv (if sg then ss ++ [[45]] else ss : List (List UInt8)).length ((if sg then ss ++ [[45]] else ss).map st) ∧ Below w.heap.size w wx)
      case first =>
        cases sg with
        | false =>
          go_wp2_with fail
          go_meet
          case rel => exact ⟨g, cap, rfl, ho, HD.out.2.2.1⟩
        | true =>
          go_wp2_with (at_builtin; refine app T_str rfl _ _ rfl (w.heap.size + 1) (.slice (some ⟨g, 0, none⟩) ss.length cap) ss.length (ss.map st) rfl (ho.alloc _) wr.heap.size 0 1 1 [st [45]] rfl rfl (fun j u h => by simpa using cells_new wr [st [45]] 9 j u h) (fun u hu => by simp at hu; subst hu; rfl) (by omega) (by omega) (by simp; omega) ?_; intro v' w3 hown' hgrow hnil)
          obtain ⟨g', cap', rfl⟩ := own_some hown'
          go_meet
          case rel =>
            refine ⟨g', cap', by simp, by simpa using hown', (HD.out.2.2.1.alloc hBs _).grown hgrow (by simp; omega) (fun k hk => by have := (ho.lt k hk).1; omega)⟩
      case rest =>
        generalize wc = W4 at *
        obtain ⟨g5, cap5, rfl, ho5, hB5⟩ := hcut
        clear ho hBs
        have hsl5 : (if sg then ss ++ [[45]] else ss : List (List UInt8)).length ≤ 40 := by cases sg <;> simp <;> omega
        have HX := Lib.hid (And.intro HTX.out HD.out.2.2.2)
        clear HTX HD
        generalize (if sg then ss ++ [[45]] else ss : List (List UInt8)) = SS at *
        have hgl := (ho5.lt g5 rfl).1
        have hgb := (ho5.lt g5 rfl).2
        have hcap := (own_cap ho5).1
        go_wp2_with fail
        refine (Reverse_row g5 cap5 _ SS W4 ho5 (by omega)).mono ?_
        rintro e w4 ⟨rfl, hg, hc⟩
        have hle := hB5.size
        have hB4 := hB5.grown hg (by omega) (fun k hk => by cases hk; omega)
        have hg4 := Nat.lt_of_lt_of_le hgb hg.size
        have HJ := Lib.hid (Join_row g5 cap5 SS.reverse w4 hc hg4 (by simp; omega) (by simpa using hcap) (by rw [HX.out.1]; have := HX.out.2; omega))
        rw [List.length_reverse, HX.out.1] at HJ
        have HB := Lib.hid hB4
        obtain ⟨T, hT⟩ : ∃ T, T = txt sg z := ⟨_, rfl⟩
        have HT := Lib.hid hT
        have hTl := HX.out.2
        rw [← hT] at HJ hTl
        have hgt : decide ((T.length : Int) > 1300) = false := by simp; omega
        clear ho5 hg hc hT hB4 HX
        go_wp2_with fail
        refine HJ.out.mono ?_
        rintro e w5 ⟨rfl, hB6⟩
        dsimp only
        go_wp2_with fail
        exact bodyPost_ret (v := .tuple #[st T, .int .i64 0]) (by simp [results, Tryz.results38, go_sem]) rfl ⟨by rw [HT.out], HB.out.trans (hB6.mono HB.out.size)⟩
    · have hkp : 0 < nk := by omega
      have hne : decide ((nk : Int) > 0) = true := by simp; omega
      have hlz := HR.out.2.1
      have hln : ss.length ≤ 22 := by
        have h1 := HR.out.2.2.2.1 (by omega)
        have h2 := HZ.out
        have h3 : 10 ^ (9 * ss.length) ≤ gk * 10 ^ (9 * ss.length) := Nat.le_mul_of_pos_left _ (by omega)
        have h4 : 9 * ss.length < 200 := (Nat.pow_lt_pow_iff_right (by omega : 1 < 10)).1 (by omega)
        omega
      have HD := Lib.hid (gdiv_calls gk 1000000000 21 _ wr hIk (Nat.lt_of_le_of_lt hlz (Nat.lt_of_lt_of_le HZ.out (by decide +kernel))) (by omega) (by omega) (by omega))
      have hr9 : gk % 1000000000 < 1000000000 := Nat.mod_lt _ (by omega)
      go_wp2_with fail
      refine HD.out.mono ?_
      rintro e w1 ⟨m', rfl, hIq, hB1⟩
      obtain ⟨Aq, nq, cq, rfl⟩ := hIq.slice
      have hq0 : nq = 0 ↔ gk / 1000000000 = 0 := hIq.len0
      have HI := Lib.hid (HT.out (gk % 1000000000) w1 (Nat.le_trans (Nat.mod_le _ _) hlz) hr9 (HR.out.2.2.2.2.2.1.trans (hB1.mono HR.out.2.2.2.2.2.1.size)))
      go_wp2_with fail
      refine HI.out.mono ?_
      rintro e w2 ⟨rfl, hB2⟩
      have hIq2 := hIq.kept hB2
      have ho2 := ownsRow_kept ho (hB1.trans (hB2.mono hB1.size))
      have HB2 := Lib.hid (HR.out.2.2.2.2.2.1.trans ((hB1.trans (hB2.mono hB1.size)).mono HR.out.2.2.2.2.2.1.size))
      have HQ2 := Lib.hid (HR.out.2.2.2.2.2.2.kept (hB1.trans (hB2.mono hB1.size)))
      have hstep : ∀ S, (1000000000 ≤ gk → S = pad9 (gk % 1000000000)) → (gk < 1000000000 → S = Lib.decDigits (gk % 1000000000)) → TextAt z (gk / 1000000000) (ss ++ [S]).reverse.flatten := by
        intro S h1 h2
        rw [List.reverse_append, List.reverse_singleton, List.singleton_append, List.flatten_cons]
        rcases Nat.lt_or_ge gk 1000000000 with h | h
        · rw [h2 h]; exact HR.out.1.last (by omega) h
        · rw [h1 h]; exact HR.out.1.nine h
      have hpw : 0 < gk / 1000000000 → gk / 1000000000 * 10 ^ (9 * (ss.length + 1)) ≤ z := by
        intro _
        have h1 := HR.out.2.2.2.1 (by omega)
        have h2 : gk / 1000000000 * 1000000000 ≤ gk := Nat.div_mul_le_self _ _
        have h3 : gk / 1000000000 * 10 ^ (9 * (ss.length + 1)) = gk / 1000000000 * 1000000000 * 10 ^ (9 * ss.length) := by
          rw [Nat.mul_add, Nat.mul_one, Nat.pow_add, Nat.mul_comm (10 ^ (9 * ss.length)), ← Nat.mul_assoc]
        rw [h3]
        exact Nat.le_trans (Nat.mul_le_mul_right _ h2) h1
      have HST2 := Lib.hid (And.intro hstep hpw)
      have hdl := decD_len (n := gk % 1000000000) (k := 8) (by omega)
      clear HD HI hIq hB1 hB2 ho hstep hpw
      by_cases hb : gk < 1000000000
      · obtain rfl : nq = 0 := hq0.2 (by omega)
        obtain ⟨S, hS⟩ : ∃ S, S = Lib.decDigits (gk % 1000000000) := ⟨_, rfl⟩
        rw [← hS] at hdl ⊢
        have HS' := Lib.hid hS
        clear hS hq0 hk0 hn0
        go_wp2_with (at_builtin; refine app T_str rfl _ _ rfl (w.heap.size + 1) u4 ss.length (ss.map st) rfl (ho2.alloc _) w2.heap.size 0 1 1 [st S] rfl rfl (fun j u h => by simpa using cells_new w2 [st S] 9 j u h) (fun u hu => by simp at hu; subst hu; rfl) (by omega) (by omega) (by simp; have := HB2.out.size; omega) ?_; intro v' w3 hown' hgrow hnil)
        go_roundg (gk / 1000000000)
        case measure => omega
        case rel =>
          have hown2 : w3.ownsRow (w.heap.size + 1) 9 1 v' (ss ++ [S]).length ((ss ++ [S]).map st) := by simpa using hown'
          have htr := trP_row hgrow (fun r hr => (ownBlock_bk (ho2.alloc _) r hr).2)
          refine ⟨ss ++ [S], hown2, ?_, Lib.hid ⟨HST2.out.1 S (fun h => by omega) (fun _ => HS'.out), by have := HR.out.2.1; omega, by simp; omega, fun h => by simpa using HST2.out.2 h, fun _ => by simp, (HB2.out.alloc HB2.out.size _).grown hgrow (by simp; have := HB2.out.size; omega) (fun k hk => by have := (ho2.lt k hk).1; omega), htr _ _ _ (by decide) (HQ2.out.alloc _)⟩⟩
          rw [show gk / 1000000000 = 0 by omega]
          exact IV.nil _ _ _
      · have hnq : 0 < nq := by
          rcases Nat.eq_zero_or_pos nq with h | h
          · have := hq0.1 h; omega
          · exact h
        have hgq : decide ((nq : Int) > 0) = true := by simp; omega
        have hI2 := Lib.hid hIq2
        obtain ⟨S0, hS⟩ : ∃ S, S = Lib.decDigits (gk % 1000000000) := ⟨_, rfl⟩
        rw [← hS] at hdl ⊢
        have HS' := Lib.hid hS
        have HRp := Lib.hid (Repeat48 (9 - S0.length) w2 (by omega))
        rw [show (((9 - S0.length : Nat)) : Int) = 9 - (S0.length : Int) by omega] at HRp
        clear hS hq0 hk0 hn0
        go_wp2_with fail
        refine HRp.out.mono ?_
        rintro e w5 ⟨rfl, hB5⟩
        dsimp only
        have ho5 := ownsRow_kept ho2 hB5
        go_upto_region 12 with (fail)
        obtain ⟨S, hS⟩ : ∃ S, S = List.replicate (9 - S0.length) 48 ++ S0 := ⟨_, rfl⟩
        have hst : Value.string ((⟨Array.replicate (9 - S0.length) 48⟩ : ByteArray) ++ ⟨S0.toArray⟩) = st S := by
          have := ba_app (List.replicate (9 - S0.length) 48) S0
          rw [hS]
          simpa using congrArg Value.string this
        have HS9 := Lib.hid (show S = pad9 (gk % 1000000000) by rw [hS, HS'.out]; rfl)
        rw [hst]
        have hB5' := hB5
        clear hS hst hB5
        go_wp2_with (at_builtin; refine app T_str rfl _ _ rfl (w.heap.size + 1) u4 ss.length (ss.map st) rfl (ho5.alloc _) w5.heap.size 0 1 1 [st S] rfl rfl (fun j u h => by simpa using cells_new w5 [st S] 9 j u h) (fun u hu => by simp at hu; subst hu; rfl) (by omega) (by omega) (by simp; have := HB2.out.size; have := hB5'.size; omega) ?_; intro v' w3 hown' hgrow hnil)
        go_roundg (gk / 1000000000)
        case measure =>
          omega
        case rel =>
          have hown2 : w3.ownsRow (w.heap.size + 1) 9 1 v' (ss ++ [S]).length ((ss ++ [S]).map st) := by simpa using hown'
          have htr := trP_row hgrow (fun r hr => (ownBlock_bk (ho5.alloc _) r hr).2)
          have hBB := HB2.out.trans (hB5'.mono HB2.out.size)
          refine ⟨ss ++ [S], hown2, htr.iv (by decide) ((hI2.out.kept hB5').kept ((Below.refl _ _).alloc (Nat.le_refl _) _)), Lib.hid ⟨HST2.out.1 S (fun _ => HS9.out) (fun h => by omega), by have := HR.out.2.1; have := Nat.div_le_self gk 1000000000; omega, by simp; omega, fun h => by simpa using HST2.out.2 h, fun _ => by simp, (hBB.alloc hBB.size _).grown hgrow (by simp; have := hBB.size; omega) (fun k hk => by have := (ho5.lt k hk).1; omega), htr _ _ _ (by decide) ((HQ2.out.kept hB5').alloc _)⟩⟩

end Go.Proofs.YthjilnnmahcnpaaGreatDoor
