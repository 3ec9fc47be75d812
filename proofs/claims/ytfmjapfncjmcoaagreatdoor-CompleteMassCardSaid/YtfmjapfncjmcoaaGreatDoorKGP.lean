/- Numbers that are read: the program's. -/
import Derived.Test.YtfmjapfncjmcoaaGreatDoorKGA
import Derived.Test.YtfmjapfncjmcoaaGreatDoorKDMJ
import Derived.Laws.RangeAny
import Derived.Lib.OthersKept
set_option maxRecDepth 100000
set_option maxHeartbeats 32000000
namespace Go.Proofs.YtfmjapfncjmcoaaGreatDoor
open Go.RowKit Go.Shelf
def digB (c : UInt8) : Bool := decide (48 ≤ c.toNat) && decide (c.toNat ≤ 57)
def decV (l : List UInt8) : Nat := l.foldl (fun m c => m * 10 + (c.toNat - 48)) 0
theorem decV_snoc (l : List UInt8) (c : UInt8) : decV (l ++ [c]) = decV l * 10 + (c.toNat - 48) := by simp [decV, List.foldl_append]
def digs (s : List UInt8) : List UInt8 := Lib.trimPrefix s [45]
def parseI (s : List UInt8) : Option (Bool × Nat) :=
 if digs s = [] ∨ ((digs s).head? = some 48 ∧ s ≠ [48]) then none else if (digs s).all digB then some (Lib.hasPrefix s [45], decV (digs s)) else none
theorem decV_lt : ∀ (n : Nat) (l : List UInt8), l.length = n → l.all digB = true → decV l < 10 ^ l.length := by
 intro n
 induction n with
 | zero => intro l hl _; rw [List.length_eq_zero_iff.1 hl]; decide
 | succ n ih =>
  intro l hl ha
  rcases List.eq_nil_or_concat l with rfl | ⟨m, c, rfl⟩
  ·simp at hl
  ·rw [List.concat_eq_append] at *
   rw [List.all_append, Bool.and_eq_true] at ha
   have h1 := ih m (by simpa using hl) ha.1
   have h2 : c.toNat ≤ 57 := by
    have := ha.2
    simp [digB] at this
    exact this.2
   rw [decV_snoc, List.length_append, List.length_singleton, Nat.pow_succ]
   omega
theorem big10 (n : Nat) {z : Nat} (h : z < 4294967296 ^ n) : z * 10 < 4294967296 ^ (n + 1) := by
 rw [Nat.pow_succ]
 generalize 4294967296 ^ n = P at *
 omega
def RetParse (w : World) (s : List UInt8) (e : Ending) (w' : World) : Prop :=
 Below w.heap.size w w' ∧ match parseI s with
  | some (sg, z) => ∃ m, e = .returned (.tuple #[.agg #[.bool (sg && decide (0 < z)), m], .int .i64 0]) ∧ IV w' m z
  | none => e = .returned (.tuple #[.agg #[.bool false, .slice none 0 0], .int .i64 3])
theorem run_int0 (w : World) : (Instr.build 44 #[]).run Tryz.prog w = .ok (.agg #[.bool false, .slice none 0 0]) w := by kernel_rfl
theorem IV.trim {W : World} {b c : Nat} {ws : List Nat} (q : Bk W b 52 (wdA ws)) (hl : ∀ d ∈ ws, d < 4294967296) (hc : ws.length ≤ c) : IV W (.slice (some ⟨b, 0, none⟩) (trimL ws).length c) (vW ws) :=
 ⟨trimL ws, Cw.of hl, by simp, _, _, rfl, Nat.le_trans (trimL_len ws) hc, fun _ => ⟨_, _, _, rfl, q, fun i u hu => by
  obtain ⟨r, hr⟩ := trimL_prefix ws
  rw [Nat.zero_add]
  have : ((trimL ws).map wd)[i]? = some u := hu
  simp only [wdA, List.getElem?_toArray]
  rw [hr, List.map_append, List.getElem?_append_left (List.getElem?_eq_some_iff.1 this).1]
  exact this⟩⟩
theorem IV.slice {W : World} {m : Value} {z : Nat} (h : IV W m z) : ∃ A n c, m = .slice A n c := by
 obtain ⟨ws, _, _, A, c, rfl, _⟩ := h
 exact ⟨A, _, c, rfl⟩
theorem gof_calls (sg : Bool) (z n : Nat) (m : Value) (w : World) (h : IV w m z) (hz : z < 4294967296 ^ n) (hn : n ≤ 1000) :
  Calls Tryz.prog 89 #[.bool sg, m] w fun e w' => ∃ m', e = .returned (.agg #[.bool (sg && decide (0 < z)), m']) ∧ IV w' m' z ∧ Below w.heap.size w w' := by
 obtain ⟨ws, hc, hr⟩ := h
 have hl := hc.len hz
 rcases Nat.eq_zero_or_pos z with h0 | h0
 ·subst h0
  have hw := hc.zero
  subst hw
  refine (pof_zero sg [] m w hr.rd (by simp) rfl).mono ?_
  rintro e w' ⟨rfl, hB⟩
  exact ⟨.slice none 0 0, by simp, IV.nil _ none 0, hB⟩
 ·have hp := hc.pos h0
  obtain ⟨_, A, c, rfl, hcc, hx⟩ := hr
  refine (pof_some sg ws A c w ⟨by simp, A, c, rfl, hcc, fun h => ?_⟩ (by omega) (by rw [hc.can]; intro h; rw [h] at hp; simp at hp)).mono ?_
  ·obtain ⟨b, o, cur, rfl, hb, hv⟩ := hx h
   have q : Bk w b 52 cur := hb
   exact ⟨b, o, rfl, q.lt, fun i u hu => by rw [q.cell]; exact hv i u hu⟩
  ·rintro e w' ⟨rfl, hB⟩
   rw [hc.can]
   refine ⟨_, by simp [h0], ⟨ws, hc, by simp, A, c, rfl, hcc, fun h => ?_⟩, hB⟩
   obtain ⟨b, o, cur, rfl, hb, hv⟩ := hx h
   have q : Bk w b 52 cur := hb
   exact ⟨b, o, cur, rfl, q.kept hB, hv⟩
theorem below_iterAt {B k : Nat} {a w : World} (h : Below B a w) (hk : B ≤ k) (s : ByteArray) (pos : Nat) : Below B a (w.iterAt k s pos) :=
 ⟨h.os, h.tape, h.output, by rw [Lib.iterAt_size]; exact h.size, fun i hi => by rw [Lib.iterAt_other _ _ _ _ _ (by omega)]; exact h.block i hi⟩
theorem Bk.iterAt {w : World} {b k : Nat} {t : TypeId} {cs : Array Value} (h : Bk w b t cs) {s0 : ByteArray} {p0 : Nat} (hk : w.heap[k]? = some (.stringIter s0 p0)) (s : ByteArray) (pos : Nat) : Bk (w.iterAt k s pos) b t cs :=
 (Lib.iterAt_other _ _ _ _ _ (fun e => by subst e; rw [show w.heap[b]? = _ from h] at hk; cases hk)).trans h
theorem IV.iterAt {w : World} {m : Value} {z k : Nat} (h : IV w m z) {s0 : ByteArray} {p0 : Nat} (hk : w.heap[k]? = some (.stringIter s0 p0)) (s : ByteArray) (pos : Nat) : IV (w.iterAt k s pos) m z := by
 obtain ⟨ws, hc, hl, A, c, rfl, hcc, hx⟩ := h
 refine ⟨ws, hc, hl, A, c, rfl, hcc, fun h0 => ?_⟩
 obtain ⟨b, o, cur, rfl, hb, hv⟩ := hx h0
 exact ⟨b, o, cur, rfl, Bk.iterAt (show Bk w b 52 cur from hb) hk s pos, hv⟩
theorem IV.set {W : World} {m : Value} {z g : Nat} {t : TypeId} {cs : Array Value} (h : IV W m z) (q : Bk W g t cs) (ht : t ≠ 52) (i : Nat) (u : Value) : IV (W.setCell ⟨g, i, none⟩ u) m z := by
 obtain ⟨ws, hc, hl, A, c, rfl, hcc, hx⟩ := h
 refine ⟨ws, hc, hl, A, c, rfl, hcc, fun h0 => ?_⟩
 obtain ⟨b, o, cur, rfl, hb, hv⟩ := hx h0
 have hb' : Bk W b 52 cur := hb
 exact ⟨b, o, cur, rfl, hb'.far (p := ⟨g, i, none⟩) u (Bk.ne hb' q (Ne.symm ht)), hv⟩
theorem iterPos_of {w : World} {k p : Nat} {s : ByteArray} (h : w.heap[k]? = some (.stringIter s p)) : w.iterPos k = p := by simp [World.iterPos, h]
theorem IV.one {W : World} {b d : Nat} (q : Bk W b 52 #[.int .u32 d]) (h0 : 0 < d) (hd : d < 4294967296) : IV W (.slice (some ⟨b, 0, none⟩) 1 1) d := by
 have := IV.trim (c := 1) (ws := [d]) q (fun x hx => by simp at hx; omega) (by simp)
 rw [show trimL [d] = [d] from trimL_pos [] (by omega)] at this
 simpa [vW] using this
theorem gmul10 (z b : Nat) (m : Value) (W : World) (h : IV W m z) (q : Bk W b 52 #[.int .u32 10]) (hz : z < 4294967296 ^ 999) :
  Calls Tryz.prog 116 #[m, .slice (some ⟨b, 0, none⟩) 1 1] W fun e w' => ∃ m', e = .returned m' ∧ IV w' m' (z * 10) ∧ Below W.heap.size W w' :=
 gmul_calls z 10 999 1 m _ W h (IV.one (d := 10) q (by omega) (by omega)) hz (by omega) (by omega) (by omega)
theorem gaddD (z d b : Nat) (m : Value) (W : World) (h : IV W m z) (hd : IV W (.slice (some ⟨b, 0, none⟩) (trimL [d]).length 1) d) (hz : z < 4294967296 ^ (999 + 1)) (h10 : d < 10) :
  Calls Tryz.prog 117 #[m, .slice (some ⟨b, 0, none⟩) (trimL [d]).length 1] W fun e w' => ∃ m', e = .returned m' ∧ IV w' m' (z + d) ∧ Below W.heap.size W w' :=
 gadd_calls z d (999 + 1) 1 m _ W h hd hz (by omega) (by omega) (by omega)
theorem ten_pow : (10 : Nat) ^ 900 < 4294967296 ^ 999 := by
 calc (10 : Nat) ^ 900 ≤ 4294967296 ^ 900 := Nat.pow_le_pow_left (by omega) _
  _ < 4294967296 ^ 999 := Nat.pow_lt_pow_right (by omega) (by omega)
theorem decV_big {l : List UInt8} (h : l.all digB = true) (hl : l.length ≤ 900) : decV l < 4294967296 ^ 999 :=
 Nat.lt_of_lt_of_le (decV_lt _ l rfl h) (Nat.le_trans (Nat.pow_le_pow_right (by omega) hl) (Nat.le_of_lt ten_pow))
theorem Parse_calls (s : List UInt8) (w : World) (hs : s.length ≤ 900) : Calls Tryz.prog 62 #[st s] w (RetParse w s) := by
 have HCP := Lib.hid (fun W => Tryz.strings_CutPrefix ⟨s.toArray⟩ ⟨#[45]⟩ W)
 have hD : Lib.trimPrefix s [45] = digs s := rfl
 have hbd := run_int0
 simp only [hD] at HCP
 have hB0 := (Below.refl w.heap.size w).alloc (Nat.le_refl _) (.cells #[.bool false, .slice none 0 0] 44)
 have q0 := Bk.new w 44 #[.bool false, .slice none 0 0]
 go_enter Tryz.func62, Tryz.ntmps62
 go_wp2_with fail
 generalize w.alloc (.cells #[.bool false, .slice none 0 0] 44) = W0 at *
 refine (HCP.out _).mono ?_
 rintro e w1 ⟨rfl, rfl⟩
 have HP := Lib.hid (show parseI s = if digs s = [] ∨ ((digs s).head? = some 48 ∧ s ≠ [48]) then none else if (digs s).all digB then some (Lib.hasPrefix s [45], decV (digs s)) else none from rfl)
 have hdl : (digs s).length ≤ 900 := by
  unfold digs Lib.trimPrefix
  split
  ·simp; omega
  ·exact hs
 generalize digs s = ds at *
 generalize Lib.hasPrefix s [45] = sg at *
 have z0 := q0.cell 0
 have z1 := q0.cell 1
 have y0 := q0.frozen 0
 have y1 := q0.frozen 1
 have zl := q0.lt
 have hfin : ∀ W, RetParse w s (.returned (.tuple #[.agg #[.bool false, .slice none 0 0], .int .i64 3])) W = RetParse w s (.returned (.tuple #[.agg #[.bool false, .slice none 0 0], .int .i64 3])) W := fun _ => rfl
 cases ds with
 | nil =>
  have hn : parseI s = none := by rw [HP.out, if_pos (.inl rfl)]
  have HR := Lib.hid (show ∀ W', Below w.heap.size w W' → RetParse w s (.returned (.tuple #[.agg #[.bool false, .slice none 0 0], .int .i64 3])) W' from fun W' h => ⟨h, by rw [hn]⟩)
  clear hn hfin
  go_wp2_with fail
  have q2 := (q0.put 0 (.bool false)).put 1 (.slice none 0 0)
  have c0 := q2.cell 0
  have c1 := q2.cell 1
  exact bodyPost_ret (v := .tuple #[.agg #[.bool false, .slice none 0 0], .int .i64 3]) (by simp [results, Tryz.results62, go_sem, c0, c1]) rfl (HR.out _ ((hB0.setCell (by simp) _).setCell (by simp) _))
 | cons c l =>
  by_cases hbad : c = 48 ∧ ¬ s = [48]
  ·obtain ⟨rfl, hs48⟩ := hbad
   have hn : parseI s = none := by rw [HP.out, if_pos (.inr ⟨rfl, hs48⟩)]
   have HR := Lib.hid (show ∀ W', Below w.heap.size w W' → RetParse w s (.returned (.tuple #[.agg #[.bool false, .slice none 0 0], .int .i64 3])) W' from fun W' h => ⟨h, by rw [hn]⟩)
   have hsb : (s == [48]) = false := by simpa using hs48
   have hix : ∀ h, (ByteArray.mk (48 :: l).toArray)[0]'h = 48 := fun _ => rfl
   clear hn hfin
   go_wp2_with fail
   have q2 := (q0.put 0 (.bool false)).put 1 (.slice none 0 0)
   have c0 := q2.cell 0
   have c1 := q2.cell 1
   exact bodyPost_ret (v := .tuple #[.agg #[.bool false, .slice none 0 0], .int .i64 3]) (by simp [results, Tryz.results62, go_sem, c0, c1]) rfl (HR.out _ ((hB0.setCell (by simp) _).setCell (by simp) _))
  ·have HP2 := Lib.hid (show parseI s = if (c :: l).all digB then some (sg, decV (c :: l)) else none by
    rw [HP.out, if_neg]
    rintro (h | ⟨h1, h2⟩)
    ·cases h
    ·exact hbad ⟨by simpa using h1, h2⟩)
   have hcase : (c = 48 ∧ s = [48]) ∨ ¬ c = 48 := by
    by_cases hc : c = 48
    ·exact .inl ⟨hc, Classical.not_not.1 fun h => hbad ⟨hc, h⟩⟩
    ·exact .inr hc
   clear HP hfin hbad
   obtain ⟨D, hD⟩ : ∃ D, D = c :: l := ⟨_, rfl⟩
   have HDD := Lib.hid hD
   clear hD
   have hix : ∀ h, (ByteArray.mk (c :: l).toArray)[0]'h = c := fun _ => rfl
   have hcc : ((c.toNat : Int) = 48 ∧ (s == [48]) = true) ∨ ¬ ((c.toNat : Int) = 48) := by
    rcases hcase with ⟨rfl, rfl⟩ | h
    ·exact .inl ⟨rfl, by simp⟩
    ·exact .inr fun e => h (UInt8.toNat_inj.1 (by show c.toNat = 48; omega))
   clear hcase
   rcases hcc with ⟨hc48, hsb⟩ | hc48
   all_goals
    go_wp2_with fail
    go_loopw [3, 6] (fun e m wr => e = .int .i64 0 ∧ ∃ pos : Nat, pos ≤ (c :: l).length ∧ Hid (Below w.heap.size w wr ∧ Bk wr w.heap.size 44 #[.bool false, .slice none 0 0] ∧ wr.heap[w1.heap.size]? = some (.stringIter ⟨(c :: l).toArray⟩ pos) ∧ ((c :: l).take pos).all digB = true ∧ IV wr m (decV ((c :: l).take pos)))) (fun _ _ wr => (c :: l).length - wr.iterPos w1.heap.size)
    case atStart => exact ⟨rfl, 0, by omega, Lib.hid ⟨hB0.alloc hB0.size _, q0.alloc _, World.iter_heap _ _ _, rfl, IV.nil _ none 0⟩⟩
    case round =>
     obtain ⟨rfl, pos, hpos, HR⟩ := hrel
     have hlt0 : w.heap.size < w1.heap.size := zl
     clear z0 z1 y0 y1 zl q0 hB0
     by_cases hp : pos < (c :: l).length
     ·have hk := HR.out.2.2.1
      obtain ⟨x, hx⟩ : ∃ x, (c :: l)[pos]? = some x := ⟨_, List.getElem?_eq_getElem hp⟩
      have hsz : pos < (ByteArray.mk (c :: l).toArray).size := by simpa [ByteArray.size] using hp
      have hget : (ByteArray.mk (c :: l).toArray)[pos]'hsz = x := by
       have h1 : (c :: l)[pos]'hp = x := by rw [List.getElem?_eq_getElem hp, Option.some.injEq] at hx; exact hx
       exact h1
      have hkl : w1.heap.size < wr.heap.size := (Array.getElem?_eq_some_iff.1 hk).1
      by_cases hd : digB x = true
      ·have hr : 48 ≤ x.toNat ∧ x.toNat ≤ 57 := by simpa [digB] using hd
       obtain ⟨r1, r2⟩ := hr
       have hnx : ∀ ty, (Instr.next (.pointer (some ⟨w1.heap.size, 0, none⟩)) true ty).run Tryz.prog wr = .ok (.tuple #[.bool true, .int .i64 pos, .int .i32 x.toNat]) (wr.iterAt w1.heap.size ⟨(c :: l).toArray⟩ (pos + 1)) := fun ty => by
        rw [Lib.run_next_ascii_at wr _ _ pos ty hk hsz (by rw [hget]; omega), hget]
       have HX := Lib.hid (And.intro hx hd)
       have HK := Lib.hid hk
       clear hx hd hk hget hsz
       have hBi := below_iterAt HR.out.1 (Nat.le_of_lt hlt0) ⟨(c :: l).toArray⟩ (pos + 1)
       have hqi := Bk.iterAt HR.out.2.1 HK.out ⟨(c :: l).toArray⟩ (pos + 1)
       have hki := Lib.iterAt_heap wr w1.heap.size ⟨(c :: l).toArray⟩ pos (pos + 1) HK.out
       have hIi := IV.iterAt HR.out.2.2.2.2 HK.out ⟨(c :: l).toArray⟩ (pos + 1)
       have hsi := Lib.iterAt_size wr w1.heap.size ⟨(c :: l).toArray⟩ (pos + 1)
       generalize wr.iterAt w1.heap.size ⟨(c :: l).toArray⟩ (pos + 1) = wi at *
       have hal := (Below.refl wi.heap.size wi).alloc (Nat.le_refl _) (.cells #[.int .u32 10] 52)
       have hzb := decV_big HR.out.2.2.2.1 (by rw [List.length_take]; omega)
       have HM := Lib.hid (gmul10 _ wi.heap.size _ _ (hIi.kept hal) (Bk.new wi 52 #[.int .u32 10]) hzb)
       have HQ := Lib.hid (And.intro (hBi.trans (hal.mono hBi.size)) (And.intro (hqi.kept hal) ((hal.block _ (by omega)).trans hki)))
       clear hBi hqi hki hIi hal hzb hsi
       go_wp2_with fail
       refine HM.out.mono ?_
       rintro e w3 ⟨m3, rfl, hI3, hB3⟩
       obtain ⟨d, hdd⟩ : ∃ d : Nat, x.toNat = d + 48 := ⟨x.toNat - 48, by omega⟩
       have hdv : ((x.toNat : Int) - 48) = (d : Int) := by omega
       have hd10 : d < 10 := by omega
       have qd := Bk.new w3 52 #[.int .u32 d]
       have hal := (Below.refl w3.heap.size w3).alloc (Nat.le_refl _) (.cells #[.int .u32 d] 52)
       have hrd : Rd (w3.alloc (.cells #[.int .u32 d] 52)) 1 (.slice (some ⟨w3.heap.size, 0, none⟩) 1 1) 1 ([d].map wd) := ⟨by simp, _, _, rfl, by simp, fun _ => ⟨_, _, rfl, qd.lt, fun j u hu => by rw [qd.cell, Nat.zero_add]; simpa [wd] using hu⟩⟩
       have HT := Lib.hid (ptrim_calls [d] _ 1 _ hrd (by simp))
       have hId := IV.trim (c := 1) (ws := [d]) qd (fun x hx => by simp at hx; omega) (by simp)
       rw [show vW [d] = d by simp [vW]] at hId
       have hz2 := big10 999 (decV_big HR.out.2.2.2.1 (by rw [List.length_take]; omega))
       have HA := Lib.hid (gaddD _ d w3.heap.size m3 _ (hI3.kept hal) hId hz2 hd10)
       have HQ3 := Lib.hid (And.intro (HQ.out.1.trans ((hB3.mono HQ.out.1.size).trans (hal.mono (Nat.le_trans HQ.out.1.size hB3.size)))) (And.intro ((HQ.out.2.1.kept hB3).kept hal) (((hal.block _ (Nat.lt_of_lt_of_le (Array.getElem?_eq_some_iff.1 HQ.out.2.2).1 hB3.size)).trans (hB3.block _ (Array.getElem?_eq_some_iff.1 HQ.out.2.2).1)).trans HQ.out.2.2)))
       have HDD := Lib.hid hdd
       clear hI3 hB3 hal hrd hId hz2 qd HM HQ hdd hd10
       go_wp2_with fail
       refine HT.out.mono ?_
       rintro e w4 ⟨rfl, rfl⟩
       go_wp2_with fail
       refine HA.out.mono ?_
       rintro e w5 ⟨m5, rfl, hI5, hB5⟩
       go_wp2_with fail
       go_roundw
       case rel =>
        refine ⟨rfl, pos + 1, by omega, Lib.hid ⟨HQ3.out.1.trans (hB5.mono HQ3.out.1.size), HQ3.out.2.1.kept hB5, (hB5.block _ (Array.getElem?_eq_some_iff.1 HQ3.out.2.2).1).trans HQ3.out.2.2, ?_, ?_⟩⟩
        ·rw [List.take_add_one, HX.out.1, List.all_append, HR.out.2.2.2.1]
         simp [HX.out.2]
        ·rw [List.take_add_one, HX.out.1]
         simp only [Option.toList_some]
         rw [decV_snoc, show x.toNat - 48 = d by have := HDD.out; omega]
         exact hI5
       case measure =>
        rw [iterPos_of HK.out, iterPos_of ((hB5.block _ (Array.getElem?_eq_some_iff.1 HQ3.out.2.2).1).trans HQ3.out.2.2)]
        omega
      ·have hv : (Utf8.decode ⟨(c :: l).toArray⟩ pos).1 < 48 ∨ 57 < (Utf8.decode ⟨(c :: l).toArray⟩ pos).1 := by
        by_cases ha : x.toNat < 128
        ·rw [decode_ascii _ pos hsz (by rw [hget]; exact ha), hget]
         have : ¬ (48 ≤ x.toNat ∧ x.toNat ≤ 57) := fun h => hd (by simp [digB, h])
         show x.toNat < 48 ∨ 57 < x.toNat
         omega
        ·have := (decode_high _ pos hsz (by rw [hget]; omega)).1
         omega
       have hnx : ∀ ty, (Instr.next (.pointer (some ⟨w1.heap.size, 0, none⟩)) true ty).run Tryz.prog wr = _ := fun ty => Lib.run_next_any_at wr _ _ pos ty hk hsz
       have hn : parseI s = none := by
        rw [HP2.out, if_neg]
        intro h
        exact hd (List.all_eq_true.1 h x (List.mem_of_getElem? hx))
       have HRR := Lib.hid (show ∀ W', Below w.heap.size w W' → RetParse w s (.returned (.tuple #[.agg #[.bool false, .slice none 0 0], .int .i64 3])) W' from fun W' h => ⟨h, by rw [hn]⟩)
       generalize (Utf8.decode ⟨(c :: l).toArray⟩ pos).2 = wdt at *
       generalize (Utf8.decode ⟨(c :: l).toArray⟩ pos).1 = v at *
       have hBi := below_iterAt HR.out.1 (Nat.le_of_lt hlt0) ⟨(c :: l).toArray⟩ (pos + wdt)
       have hqi := Bk.iterAt HR.out.2.1 hk ⟨(c :: l).toArray⟩ (pos + wdt)
       generalize wr.iterAt w1.heap.size ⟨(c :: l).toArray⟩ (pos + wdt) = wi at *
       have z0 := hqi.cell 0
       have z1 := hqi.cell 1
       have y0 := hqi.frozen 0
       have y1 := hqi.frozen 1
       have zl := hqi.lt
       have HQ := Lib.hid (And.intro hBi hqi)
       have hbl : (decide ((v : Int) < 48) || decide (57 < (v : Int))) = true := by simp; omega
       clear hn hx hd hk hget hsz hBi hqi
       rcases hv with hv | hv
       all_goals
        go_wp2_with fail
        have q2 := (HQ.out.2.put 0 (.bool false)).put 1 (.slice none 0 0)
        have c0 := q2.cell 0
        have c1 := q2.cell 1
        exact bodyPost_ret (v := .tuple #[.agg #[.bool false, .slice none 0 0], .int .i64 3]) (by simp [results, Tryz.results62, go_sem, c0, c1]) rfl (HRR.out _ ((HQ.out.1.setCell (by simp) _).setCell (by simp) _))
     ·obtain rfl : pos = (c :: l).length := by omega
      have hk := HR.out.2.2.1
      have hI := HR.out.2.2.2.2
      have hall := HR.out.2.2.2.1
      rw [List.take_length] at hI hall
      have hnx : ∀ ty, (Instr.next (.pointer (some ⟨w1.heap.size, 0, none⟩)) true ty).run Tryz.prog wr = _ := fun ty => Lib.run_next_end_at wr _ _ _ ty hk (by simp [ByteArray.size])
      have HF := Lib.hid (gof_calls sg _ 999 u6 wr hI (decV_big hall (by omega)) (by omega))
      have HV := Lib.hid (show parseI s = some (sg, decV (c :: l)) by rw [HP2.out, if_pos hall])
      have hql := HR.out.2.1.lt
      clear hI hall hk
      generalize decV (c :: l) = z at *
      go_wp2_with fail
      refine HF.out.mono ?_
      rintro e w5 ⟨m5, rfl, hI5, hB5⟩
      obtain ⟨A5, n5, k5, rfl⟩ := hI5.slice
      have q5 := HR.out.2.1.kept hB5
      have z0 := q5.cell 0
      have z1 := q5.cell 1
      have y0 := q5.frozen 0
      have y1 := q5.frozen 1
      have zl := q5.lt
      have HQ := Lib.hid (And.intro q5 (And.intro (HR.out.1.trans (hB5.mono HR.out.1.size)) hI5))
      clear q5 hI5 hB5
      go_wp2_with fail
      have q2 := (HQ.out.1.put 0 (.bool (sg && decide (0 < z)))).put 1 (.slice A5 n5 k5)
      have c0 := q2.cell 0
      have c1 := q2.cell 1
      refine bodyPost_ret (v := .tuple #[.agg #[.bool (sg && decide (0 < z)), .slice A5 n5 k5], .int .i64 0]) (by simp [results, Tryz.results62, go_sem, c0, c1]) rfl ⟨(HQ.out.2.1.setCell (by simp) _).setCell (by simp) _, ?_⟩
      rw [HV.out]
      exact ⟨_, rfl, (HQ.out.2.2.set HQ.out.1 (by decide) 0 _).set (HQ.out.1.put 0 _) (by decide) 1 _⟩
end Go.Proofs.YtfmjapfncjmcoaaGreatDoor
