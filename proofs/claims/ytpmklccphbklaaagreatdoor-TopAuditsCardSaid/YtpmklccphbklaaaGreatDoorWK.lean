/- Numbers that are read: the program's. -/
import Derived.Laws.RangeAny
import Derived.Lib.OthersKept
import Derived.Test.YtpmklccphbklaaaGreatDoorWI
namespace Go.Proofs.YtpmklccphbklaaaGreatDoor
open Go.RowKit Go.Shelf Go.Proofs.Tryz
set_option maxRecDepth 100000
set_option maxHeartbeats 400000
def digB (c : UInt8) : Bool := decide (48 ≤ c.toNat) && decide (c.toNat ≤ 57)
def decV (l : List UInt8) : Nat := l.foldl (fun m c => m * 10 + (c.toNat - 48)) 0
theorem decV_snoc (l : List UInt8) (c : UInt8) : decV (l ++ [c]) = decV l * 10 + (c.toNat - 48) := by simp [decV, List.foldl_append]
def digs (s : List UInt8) : List UInt8 := Lib.trimPrefix s [45]
def parseI (s : List UInt8) : Option (Bool × Nat) :=
 if digs s = [] ∨ ((digs s).head? = some 48 ∧ s ≠ [48]) then none else if (digs s).all digB then some (Lib.hasPrefix s [45], decV (digs s)) else none
theorem decV_lt : ∀ (n : Nat) (l : List UInt8), l.length = n → l.all digB = true → decV l < 10 ^ l.length := by
 intro n
 induction n with
 | zero => intro l hl _; rw [List.length_eq_zero_iff.1 hl]; decide
 | succ n ih =>
  intro l hl ha
  rcases List.eq_nil_or_concat l with rfl | ⟨m, c, rfl⟩
  ·simp at hl
  ·rw [List.concat_eq_append] at *
   rw [List.all_append, Bool.and_eq_true] at ha
   have h1 := ih m (by simpa using hl) ha.1
   have h2 : c.toNat ≤ 57 := by
    have := ha.2
    simp [digB] at this
    exact this.2
   rw [decV_snoc, List.length_append, List.length_singleton, Nat.pow_succ]
   omega
theorem big10 (n : Nat) {z : Nat} (h : z < 4294967296 ^ n) : z * 10 < 4294967296 ^ (n + 1) := by
 rw [Nat.pow_succ]
 generalize 4294967296 ^ n = P at *
 omega
def RetParse (w : World) (s : List UInt8) (e : Ending) (w' : World) : Prop :=
 Below w.heap.size w w' ∧ match parseI s with
  | some (sg, z) => ∃ m, e = .returned (.tuple #[.agg #[.bool (sg && decide (0 < z)), m], .int .i64 0]) ∧ IV w' m z
  | none => e = .returned (.tuple #[.agg #[.bool false, .slice none 0 0], .int .i64 3])
theorem run_int0 (w : World) : (Instr.build 41 #[]).run prog w = .ok (.agg #[.bool false, .slice none 0 0]) w := by kernel_rfl
theorem IV.trim {W : World} {b c : Nat} {ws : List Nat} (q : Bk W b 152 (wdA ws)) (hl : ∀ d ∈ ws, d < 4294967296) (hc : ws.length ≤ c) : IV W (.slice (some ⟨b, 0, none⟩) (trimL ws).length c) (vW ws) :=
 ⟨trimL ws, Cw.of hl, by simp, _, _, rfl, Nat.le_trans (trimL_len ws) hc, fun _ => ⟨_, _, _, rfl, q, fun i u hu => by
  obtain ⟨r, hr⟩ := trimL_prefix ws
  rw [Nat.zero_add]
  have : ((trimL ws).map wd)[i]? = some u := hu
  simp only [wdA, List.getElem?_toArray]
  rw [hr, List.map_append, List.getElem?_append_left (List.getElem?_eq_some_iff.1 this).1]
  exact this⟩⟩
theorem IV.slice {W : World} {m : Value} {z : Nat} (h : IV W m z) : ∃ A n c, m = .slice A n c := by
 obtain ⟨ws, _, _, A, c, rfl, _⟩ := h
 exact ⟨A, _, c, rfl⟩
theorem gof_calls (sg : Bool) (z n : Nat) (m : Value) (w : World) (h : IV w m z) (hz : z < 4294967296 ^ n) (hn : n ≤ 1000) :
  Calls prog 59 #[.bool sg, m] w fun e w' => ∃ m', e = .returned (.agg #[.bool (sg && decide (0 < z)), m']) ∧ IV w' m' z ∧ Below w.heap.size w w' := by
 obtain ⟨ws, hc, hr⟩ := h
 have hl := hc.len hz
 rcases Nat.eq_zero_or_pos z with h0 | h0
 ·subst h0
  have hw := hc.zero
  subst hw
  refine (pof_zero sg [] m w hr.rd (by simp) rfl).mono ?_
  rintro e w' ⟨rfl, hB⟩
  exact ⟨.slice none 0 0, by simp, IV.nil _ none 0, hB⟩
 ·have hp := hc.pos h0
  obtain ⟨_, A, c, rfl, hcc, hx⟩ := hr
  refine (pof_some sg ws A c w ⟨by simp, A, c, rfl, hcc, fun h => ?_⟩ (by omega) (by rw [hc.can]; intro h; rw [h] at hp; simp at hp)).mono ?_
  ·obtain ⟨b, o, cur, rfl, hb, hv⟩ := hx h
   have q : Bk w b 152 cur := hb
   exact ⟨b, o, rfl, q.lt, fun i u hu => by rw [q.cell]; exact hv i u hu⟩
  ·rintro e w' ⟨rfl, hB⟩
   rw [hc.can]
   refine ⟨_, by simp [h0], ⟨ws, hc, by simp, A, c, rfl, hcc, fun h => ?_⟩, hB⟩
   obtain ⟨b, o, cur, rfl, hb, hv⟩ := hx h
   have q : Bk w b 152 cur := hb
   exact ⟨b, o, cur, rfl, q.kept hB, hv⟩
theorem below_iterAt {B k : Nat} {a w : World} (h : Below B a w) (hk : B ≤ k) (s : ByteArray) (pos : Nat) : Below B a (w.iterAt k s pos) :=
 ⟨h.os, h.tape, h.output, by rw [Lib.iterAt_size]; exact h.size, fun i hi => by rw [Lib.iterAt_other _ _ _ _ _ (by omega)]; exact h.block i hi⟩
theorem Bk.iterAt {w : World} {b k : Nat} {t : TypeId} {cs : Array Value} (h : Bk w b t cs) {s0 : ByteArray} {p0 : Nat} (hk : w.heap[k]? = some (.stringIter s0 p0)) (s : ByteArray) (pos : Nat) : Bk (w.iterAt k s pos) b t cs :=
 (Lib.iterAt_other _ _ _ _ _ (fun e => by subst e; rw [show w.heap[b]? = _ from h] at hk; cases hk)).trans h
theorem IV.iterAt {w : World} {m : Value} {z k : Nat} (h : IV w m z) {s0 : ByteArray} {p0 : Nat} (hk : w.heap[k]? = some (.stringIter s0 p0)) (s : ByteArray) (pos : Nat) : IV (w.iterAt k s pos) m z := by
 obtain ⟨ws, hc, hl, A, c, rfl, hcc, hx⟩ := h
 refine ⟨ws, hc, hl, A, c, rfl, hcc, fun h0 => ?_⟩
 obtain ⟨b, o, cur, rfl, hb, hv⟩ := hx h0
 exact ⟨b, o, cur, rfl, Bk.iterAt (show Bk w b 152 cur from hb) hk s pos, hv⟩
theorem IV.set {W : World} {m : Value} {z g : Nat} {t : TypeId} {cs : Array Value} (h : IV W m z) (q : Bk W g t cs) (ht : t ≠ 152) (i : Nat) (u : Value) : IV (W.setCell ⟨g, i, none⟩ u) m z := by
 obtain ⟨ws, hc, hl, A, c, rfl, hcc, hx⟩ := h
 refine ⟨ws, hc, hl, A, c, rfl, hcc, fun h0 => ?_⟩
 obtain ⟨b, o, cur, rfl, hb, hv⟩ := hx h0
 have hb' : Bk W b 152 cur := hb
 exact ⟨b, o, cur, rfl, hb'.far (p := ⟨g, i, none⟩) u (Bk.ne hb' q (Ne.symm ht)), hv⟩
theorem iterPos_of {w : World} {k p : Nat} {s : ByteArray} (h : w.heap[k]? = some (.stringIter s p)) : w.iterPos k = p := by simp [World.iterPos, h]
theorem IV.one {W : World} {b d : Nat} (q : Bk W b 152 #[.int .u32 d]) (h0 : 0 < d) (hd : d < 4294967296) : IV W (.slice (some ⟨b, 0, none⟩) 1 1) d := by
 have := IV.trim (c := 1) (ws := [d]) q (fun x hx => by simp at hx; omega) (by simp)
 rw [show trimL [d] = [d] from trimL_pos [] (by omega)] at this
 simpa [vW] using this
theorem gmul10 (z b : Nat) (m : Value) (W : World) (h : IV W m z) (q : Bk W b 152 #[.int .u32 10]) (hz : z < 4294967296 ^ 999) :
  Calls prog 116 #[m, .slice (some ⟨b, 0, none⟩) 1 1] W fun e w' => ∃ m', e = .returned m' ∧ IV w' m' (z * 10) ∧ Below W.heap.size W w' :=
 gmul_calls z 10 999 1 m _ W h (IV.one (d := 10) q (by omega) (by omega)) hz (by omega) (by omega) (by omega)
theorem gaddD (z d b : Nat) (m : Value) (W : World) (h : IV W m z) (hd : IV W (.slice (some ⟨b, 0, none⟩) (trimL [d]).length 1) d) (hz : z < 4294967296 ^ (999 + 1)) (h10 : d < 10) :
  Calls prog 113 #[m, .slice (some ⟨b, 0, none⟩) (trimL [d]).length 1] W fun e w' => ∃ m', e = .returned m' ∧ IV w' m' (z + d) ∧ Below W.heap.size W w' :=
 gadd_calls z d (999 + 1) 1 m _ W h hd hz (by omega) (by omega) (by omega)
theorem ten_pow : (10 : Nat) ^ 900 < 4294967296 ^ 999 := by
 calc (10 : Nat) ^ 900 ≤ 4294967296 ^ 900 := Nat.pow_le_pow_left (by omega) _
  _ < 4294967296 ^ 999 := Nat.pow_lt_pow_right (by omega) (by omega)
theorem decV_big {l : List UInt8} (h : l.all digB = true) (hl : l.length ≤ 900) : decV l < 4294967296 ^ 999 :=
 Nat.lt_of_lt_of_le (decV_lt _ l rfl h) (Nat.le_trans (Nat.pow_le_pow_right (by omega) hl) (Nat.le_of_lt ten_pow))
theorem Parse_calls (s : List UInt8) (w : World) (hs : s.length ≤ 900) : Calls prog 79 #[st s] w (RetParse w s) := by
 have HCP := Hi (fun W => Tryz.strings_CutPrefix ⟨s.toArray⟩ ⟨#[45]⟩ W)
 have hD : Lib.trimPrefix s [45] = digs s := rfl
 have hbd := run_int0
 simp only [hD] at HCP
 have hB0 := (Below.refl w.heap.size w).alloc (Nat.le_refl _) (.cells #[.bool false, .slice none 0 0] 41)
 have q0 := Bk.new w 41 #[.bool false, .slice none 0 0]
 go_enter func79, ntmps79
 go_wp2_with fail
 generalize w.alloc _ = W0 at *
 refine (HCP.out _).mono ?_
 rintro e w1 ⟨rfl, rfl⟩
 have HP := Hi (show parseI s = if digs s = [] ∨ ((digs s).head? = some 48 ∧ s ≠ [48]) then none else if (digs s).all digB then some (Lib.hasPrefix s [45], decV (digs s)) else none from rfl)
 have hdl : (digs s).length ≤ 900 := by
  unfold digs Lib.trimPrefix
  split
  ·simp; omega
  ·exact hs
 generalize digs s = ds at *
 generalize Lib.hasPrefix s [45] = sg at *
 have z0 := q0.cell 0
 have z1 := q0.cell 1
 have y0 := q0.frozen 0
 have y1 := q0.frozen 1
 have zl := q0.lt
 have hfin : ∀ W, RetParse w s (.returned (.tuple #[.agg #[.bool false, .slice none 0 0], .int .i64 3])) W = RetParse w s (.returned (.tuple #[.agg #[.bool false, .slice none 0 0], .int .i64 3])) W := fun _ => rfl
 cases ds with
 | nil =>
  have hn : parseI s = none := by rw [HP.out, if_pos (.inl rfl)]
  have HR := Hi (show ∀ W', Below w.heap.size w W' → RetParse w s (.returned (.tuple #[.agg #[.bool false, .slice none 0 0], .int .i64 3])) W' from fun W' h => ⟨h, by rw [hn]⟩)
  clear hn hfin
  go_wp2_with fail
  have q2 := (q0.put 0 (.bool false)).put 1 (.slice none 0 0)
  have c0 := q2.cell 0
  have c1 := q2.cell 1
  exact bodyPost_ret (v := .tuple #[.agg #[.bool false, .slice none 0 0], .int .i64 3]) (by simp [results, results79, go_sem, c0, c1]) rfl (HR.out _ ((hB0.setCell (by simp) _).setCell (by simp) _))
 | cons c l =>
  by_cases hbad : c = 48 ∧ ¬ s = [48]
  ·obtain ⟨rfl, hs48⟩ := hbad
   have hn : parseI s = none := by rw [HP.out, if_pos (.inr ⟨rfl, hs48⟩)]
   have HR := Hi (show ∀ W', Below w.heap.size w W' → RetParse w s (.returned (.tuple #[.agg #[.bool false, .slice none 0 0], .int .i64 3])) W' from fun W' h => ⟨h, by rw [hn]⟩)
   have hsb : (s == [48]) = false := by simpa using hs48
   have hix : ∀ h, (ByteArray.mk (48 :: l).toArray)[0]'h = 48 := fun _ => rfl
   clear hn hfin
   go_wp2_with fail
   have q2 := (q0.put 0 (.bool false)).put 1 (.slice none 0 0)
   have c0 := q2.cell 0
   have c1 := q2.cell 1
   exact bodyPost_ret (v := .tuple #[.agg #[.bool false, .slice none 0 0], .int .i64 3]) (by simp [results, results79, go_sem, c0, c1]) rfl (HR.out _ ((hB0.setCell (by simp) _).setCell (by simp) _))
  ·have HP2 := Hi (show parseI s = if (c :: l).all digB then some (sg, decV (c :: l)) else none by
    rw [HP.out, if_neg]
    rintro (h | ⟨h1, h2⟩)
    ·cases h
    ·exact hbad ⟨by simpa using h1, h2⟩)
   have hcase : (c = 48 ∧ s = [48]) ∨ ¬ c = 48 := by
    by_cases hc : c = 48
    ·exact .inl ⟨hc, Classical.not_not.1 fun h => hbad ⟨hc, h⟩⟩
    ·exact .inr hc
   clear HP hfin hbad
   obtain ⟨D, hD⟩ : ∃ D, D = c :: l := ⟨_, rfl⟩
   have HDD := Lib.hid hD
   clear hD
   have hix : ∀ h, (ByteArray.mk (c :: l).toArray)[0]'h = c := fun _ => rfl
   have hcc : ((c.toNat : Int) = 48 ∧ (s == [48]) = true) ∨ ¬ ((c.toNat : Int) = 48) := by
    rcases hcase with ⟨rfl, rfl⟩ | h
    ·exact .inl ⟨rfl, by simp⟩
    ·exact .inr fun e => h (UInt8.toNat_inj.1 (by show c.toNat = 48; omega))
   clear hcase
   rcases hcc with ⟨hc48, hsb⟩ | hc48
   all_goals
    go_wp2_with fail
    go_loopw [3, 6] (fun e m wr => e = .int .i64 0 ∧ ∃ pos : Nat, pos ≤ (c :: l).length ∧ Hid (Below w.heap.size w wr ∧ Bk wr w.heap.size 41 #[.bool false, .slice none 0 0] ∧ wr.heap[w1.heap.size]? = some (.stringIter ⟨(c :: l).toArray⟩ pos) ∧ ((c :: l).take pos).all digB = true ∧ IV wr m (decV ((c :: l).take pos)))) (fun _ _ wr => (c :: l).length - wr.iterPos w1.heap.size)
    case atStart => exact ⟨rfl, 0, by omega, Lib.hid ⟨hB0.alloc hB0.size _, q0.alloc _, World.iter_heap _ _ _, rfl, IV.nil _ none 0⟩⟩
    case round =>
     obtain ⟨rfl, pos, hpos, HR⟩ := hrel
     have hlt0 : w.heap.size < w1.heap.size := zl
     clear z0 z1 y0 y1 zl q0 hB0
     by_cases hp : pos < (c :: l).length
     ·have hk := HR.out.2.2.1
      obtain ⟨x, hx⟩ : ∃ x, (c :: l)[pos]? = some x := ⟨_, List.getElem?_eq_getElem hp⟩
      have hsz : pos < (ByteArray.mk (c :: l).toArray).size := by simpa [ByteArray.size] using hp
      have hget : (ByteArray.mk (c :: l).toArray)[pos]'hsz = x := by
       have h1 : (c :: l)[pos]'hp = x := by rw [List.getElem?_eq_getElem hp, Option.some.injEq] at hx; exact hx
       exact h1
      have hkl : w1.heap.size < wr.heap.size := (Array.getElem?_eq_some_iff.1 hk).1
      by_cases hd : digB x = true
      ·have hr : 48 ≤ x.toNat ∧ x.toNat ≤ 57 := by simpa [digB] using hd
       obtain ⟨r1, r2⟩ := hr
       have hnx : ∀ ty, (Instr.next (.pointer (some ⟨w1.heap.size, 0, none⟩)) true ty).run prog wr = .ok (.tuple #[.bool true, .int .i64 pos, .int .i32 x.toNat]) (wr.iterAt w1.heap.size ⟨(c :: l).toArray⟩ (pos + 1)) := fun ty => by
        rw [Lib.run_next_ascii_at wr _ _ pos ty hk hsz (by rw [hget]; omega), hget]
       have HX := Hi (And.intro hx hd)
       have HK := Lib.hid hk
       clear hx hd hk hget hsz
       have hBi := below_iterAt HR.out.1 (Nat.le_of_lt hlt0) ⟨(c :: l).toArray⟩ (pos + 1)
       have hqi := Bk.iterAt HR.out.2.1 HK.out ⟨(c :: l).toArray⟩ (pos + 1)
       have hki := Lib.iterAt_heap wr w1.heap.size ⟨(c :: l).toArray⟩ pos (pos + 1) HK.out
       have hIi := IV.iterAt HR.out.2.2.2.2 HK.out ⟨(c :: l).toArray⟩ (pos + 1)
       have hsi := Lib.iterAt_size wr w1.heap.size ⟨(c :: l).toArray⟩ (pos + 1)
       generalize wr.iterAt w1.heap.size ⟨(c :: l).toArray⟩ (pos + 1) = wi at *
       have hal := (Below.refl wi.heap.size wi).alloc (Nat.le_refl _) (.cells #[.int .u32 10] 152)
       have hzb := decV_big HR.out.2.2.2.1 (by rw [List.length_take]; omega)
       have HM := Hi (gmul10 _ wi.heap.size _ _ (hIi.kept hal) (Bk.new wi 152 #[.int .u32 10]) hzb)
       have HQ := Hi (And.intro (hBi.trans (hal.mono hBi.size)) (And.intro (hqi.kept hal) ((hal.block _ (by omega)).trans hki)))
       clear hBi hqi hki hIi hal hzb hsi
       go_wp2_with fail
       refine HM.out.mono ?_
       rintro e w3 ⟨m3, rfl, hI3, hB3⟩
       obtain ⟨d, hdd⟩ : ∃ d : Nat, x.toNat = d + 48 := ⟨x.toNat - 48, by omega⟩
       have hdv : ((x.toNat : Int) - 48) = (d : Int) := by omega
       have hd10 : d < 10 := by omega
       have qd := Bk.new w3 152 #[.int .u32 d]
       have hal := (Below.refl w3.heap.size w3).alloc (Nat.le_refl _) (.cells #[.int .u32 d] 152)
       have hrd : Rd (w3.alloc (.cells #[.int .u32 d] 152)) 1 (.slice (some ⟨w3.heap.size, 0, none⟩) 1 1) 1 ([d].map wd) := ⟨by simp, _, _, rfl, by simp, fun _ => ⟨_, _, rfl, qd.lt, fun j u hu => by rw [qd.cell, Nat.zero_add]; simpa [wd] using hu⟩⟩
       have HT := Hi (ptrim_calls [d] _ 1 _ hrd (by simp))
       have hId := IV.trim (c := 1) (ws := [d]) qd (fun x hx => by simp at hx; omega) (by simp)
       rw [show vW [d] = d by simp [vW]] at hId
       have hz2 := big10 999 (decV_big HR.out.2.2.2.1 (by rw [List.length_take]; omega))
       have HA := Hi (gaddD _ d w3.heap.size m3 _ (hI3.kept hal) hId hz2 hd10)
       have HQ3 := Hi (And.intro (HQ.out.1.trans ((hB3.mono HQ.out.1.size).trans (hal.mono (Nat.le_trans HQ.out.1.size hB3.size)))) (And.intro ((HQ.out.2.1.kept hB3).kept hal) (((hal.block _ (Nat.lt_of_lt_of_le (Array.getElem?_eq_some_iff.1 HQ.out.2.2).1 hB3.size)).trans (hB3.block _ (Array.getElem?_eq_some_iff.1 HQ.out.2.2).1)).trans HQ.out.2.2)))
       have HDD := Lib.hid hdd
       clear hI3 hB3 hal hrd hId hz2 qd HM HQ hdd hd10
       go_wp2_with fail
       refine HT.out.mono ?_
       rintro e w4 ⟨rfl, rfl⟩
       go_wp2_with fail
       refine HA.out.mono ?_
       rintro e w5 ⟨m5, rfl, hI5, hB5⟩
       go_wp2_with fail
       go_roundw
       case rel =>
        refine ⟨rfl, pos + 1, by omega, Lib.hid ⟨HQ3.out.1.trans (hB5.mono HQ3.out.1.size), HQ3.out.2.1.kept hB5, (hB5.block _ (Array.getElem?_eq_some_iff.1 HQ3.out.2.2).1).trans HQ3.out.2.2, ?_, ?_⟩⟩
        ·rw [List.take_add_one, HX.out.1, List.all_append, HR.out.2.2.2.1]
         simp [HX.out.2]
        ·rw [List.take_add_one, HX.out.1]
         simp only [Option.toList_some]
         rw [decV_snoc, show x.toNat - 48 = d by have := HDD.out; omega]
         exact hI5
       case measure =>
        rw [iterPos_of HK.out, iterPos_of ((hB5.block _ (Array.getElem?_eq_some_iff.1 HQ3.out.2.2).1).trans HQ3.out.2.2)]
        omega
      ·have hv : (Utf8.decode ⟨(c :: l).toArray⟩ pos).1 < 48 ∨ 57 < (Utf8.decode ⟨(c :: l).toArray⟩ pos).1 := by
        by_cases ha : x.toNat < 128
        ·rw [decode_ascii _ pos hsz (by rw [hget]; exact ha), hget]
         have : ¬ (48 ≤ x.toNat ∧ x.toNat ≤ 57) := fun h => hd (by simp [digB, h])
         show x.toNat < 48 ∨ 57 < x.toNat
         omega
        ·have := (decode_high _ pos hsz (by rw [hget]; omega)).1
         omega
       have hnx : ∀ ty, (Instr.next (.pointer (some ⟨w1.heap.size, 0, none⟩)) true ty).run prog wr = _ := fun ty => Lib.run_next_any_at wr _ _ pos ty hk hsz
       have hn : parseI s = none := by
        rw [HP2.out, if_neg]
        intro h
        exact hd (List.all_eq_true.1 h x (List.mem_of_getElem? hx))
       have HRR := Hi (show ∀ W', Below w.heap.size w W' → RetParse w s (.returned (.tuple #[.agg #[.bool false, .slice none 0 0], .int .i64 3])) W' from fun W' h => ⟨h, by rw [hn]⟩)
       generalize (Utf8.decode ⟨(c :: l).toArray⟩ pos).2 = wdt at *
       generalize (Utf8.decode ⟨(c :: l).toArray⟩ pos).1 = v at *
       have hBi := below_iterAt HR.out.1 (Nat.le_of_lt hlt0) ⟨(c :: l).toArray⟩ (pos + wdt)
       have hqi := Bk.iterAt HR.out.2.1 hk ⟨(c :: l).toArray⟩ (pos + wdt)
       generalize wr.iterAt w1.heap.size ⟨(c :: l).toArray⟩ (pos + wdt) = wi at *
       have z0 := hqi.cell 0
       have z1 := hqi.cell 1
       have y0 := hqi.frozen 0
       have y1 := hqi.frozen 1
       have zl := hqi.lt
       have HQ := Hi (And.intro hBi hqi)
       have hbl : (decide ((v : Int) < 48) || decide (57 < (v : Int))) = true := by simp; omega
       clear hn hx hd hk hget hsz hBi hqi
       rcases hv with hv | hv
       all_goals
        go_wp2_with fail
        have q2 := (HQ.out.2.put 0 (.bool false)).put 1 (.slice none 0 0)
        have c0 := q2.cell 0
        have c1 := q2.cell 1
        exact bodyPost_ret (v := .tuple #[.agg #[.bool false, .slice none 0 0], .int .i64 3]) (by simp [results, results79, go_sem, c0, c1]) rfl (HRR.out _ ((HQ.out.1.setCell (by simp) _).setCell (by simp) _))
     ·obtain rfl : pos = (c :: l).length := by omega
      have hk := HR.out.2.2.1
      have hI := HR.out.2.2.2.2
      have hall := HR.out.2.2.2.1
      rw [List.take_length] at hI hall
      have hnx : ∀ ty, (Instr.next (.pointer (some ⟨w1.heap.size, 0, none⟩)) true ty).run prog wr = _ := fun ty => Lib.run_next_end_at wr _ _ _ ty hk (by simp [ByteArray.size])
      have HF := Hi (gof_calls sg _ 999 u6 wr hI (decV_big hall (by omega)) (by omega))
      have HV := Hi (show parseI s = some (sg, decV (c :: l)) by rw [HP2.out, if_pos hall])
      have hql := HR.out.2.1.lt
      clear hI hall hk
      generalize decV (c :: l) = z at *
      go_wp2_with fail
      refine HF.out.mono ?_
      rintro e w5 ⟨m5, rfl, hI5, hB5⟩
      obtain ⟨A5, n5, k5, rfl⟩ := hI5.slice
      have q5 := HR.out.2.1.kept hB5
      have z0 := q5.cell 0
      have z1 := q5.cell 1
      have y0 := q5.frozen 0
      have y1 := q5.frozen 1
      have zl := q5.lt
      have HQ := Hi (And.intro q5 (And.intro (HR.out.1.trans (hB5.mono HR.out.1.size)) hI5))
      clear q5 hI5 hB5
      go_wp2_with fail
      have q2 := (HQ.out.1.put 0 (.bool (sg && decide (0 < z)))).put 1 (.slice A5 n5 k5)
      have c0 := q2.cell 0
      have c1 := q2.cell 1
      refine bodyPost_ret (v := .tuple #[.agg #[.bool (sg && decide (0 < z)), .slice A5 n5 k5], .int .i64 0]) (by simp [results, results79, go_sem, c0, c1]) rfl ⟨(HQ.out.2.1.setCell (by simp) _).setCell (by simp) _, ?_⟩
      rw [HV.out]
      exact ⟨_, rfl, (HQ.out.2.2.set HQ.out.1 (by decide) 0 _).set (HQ.out.1.put 0 _) (by decide) 1 _⟩
set_option maxRecDepth 100000
set_option maxHeartbeats 2000000
def downL : Nat → Nat → List Nat
 | _, 0 => []
 | n, k + 1 => downL n k ++ [n - 1 - k]
abbrev bwE (ws : List Nat) (k : Nat) : Array Value := #[.int .i64 (k : Int), wd (ws.getD k 0)]
theorem downL_len (n : Nat) : ∀ k, (downL n k).length = k
 | 0 => rfl
 | k + 1 => by simp [downL, downL_len n k]
theorem downL_pre (n : Nat) : ∀ k m, k ≤ m → downL n k <+: downL n m
 | k, 0, h => by
  obtain rfl : k = 0 := by omega
  exact List.prefix_refl _
 | k, m + 1, h => by
  rcases Nat.lt_or_ge m k with h1 | h1
  ·obtain rfl : k = m + 1 := by omega
   exact List.prefix_refl _
  ·exact (downL_pre n k m h1).trans (List.prefix_append _ _)
theorem back_calls (v : Value) (hv : ∃ A n c, v = .slice A n c) (w : World) :
  Calls prog 432 #[v] w fun e w' => e = .returned (.func (.func 550) #[] #[.pointer (some ⟨w.heap.size, 0, none⟩)]) ∧ w' = w.alloc (.cells #[v] 39) := by
 obtain ⟨A, n, c, rfl⟩ := hv
 go_enter func432, ntmps432
 go_wp2_with fail
 go_ret
 exact ⟨rfl, rfl⟩
attribute [local go_sem] Oper.semAt_some
theorem back1_in (n : Nat) (l g : Nat) (ws : List Nat) (A : Option Addr) (c : Nat) (hl1 : ws.length ≤ 1000) (w : World) (H : ∀ k x, ws[k]? = some x → ∃ b o, A = some ⟨b, o, none⟩ ∧ b < w.heap.size ∧ ∀ W, Below w.heap.size w W → W.cell? ⟨b, o + k, none⟩ = some (wd x)) (J Jx : List Nat → World → Prop) (W : World) (hW : Below w.heap.size w W) (q : Bk W g 39 #[.slice A ws.length c])
  (_ : AbidesFrom W.heap.size J)
  (hY : ∀ pre x W1, J pre W1 → pre.length < ws.length → YieldAt Fence.wide (n - 1) prog l (bwE ws x) W1 fun e W' =>
   (e = .returned (.bool true) ∧ J (pre ++ [x]) W' ∧ (Kb g W1 W' ∧ ∀ b, b < w.heap.size → Kb b W1 W')) ∨ (e = .returned (.bool false) ∧ Jx (pre ++ [x]) W'))
  (h0 : J [] W) :
  CallsIn Fence.wide n prog 550 #[.func (.yield l) #[] #[], .pointer (some ⟨g, 0, none⟩)] W fun e W' => (∃ v, e = .returned v) ∧ ((∃ xs, xs = downL ws.length ws.length ∧ J xs W') ∨ (∃ pre, pre <+: downL ws.length ws.length ∧ Jx pre W')) := by
 have H1 := Lib.hid H
 have c0 := q.cell 0
 have l0 := q.lt
 clear H
 generalize hla : ws.length = la at *
 have HLA := Lib.hid hla
 clear hla
 refine callsIn_of_wp func550 rfl trivial ?_ rfl
 simp only [ntmps550, List.size_toArray, List.length_cons, List.length_nil, Nat.reduceAdd, Nat.reduceSub, Array.replicate_succ, Array.replicate_zero, List.push_toArray, List.append_toArray, List.nil_append, List.cons_append]
 have HY := Lib.hid hY
 have HW := Lib.hid hW
 clear hY
 gi_wp2_with fail
 gi_loopw [3] (fun i wr => ∃ k : Nat, k ≤ la ∧ i = .int .i64 ((la : Int) - 1 - k) ∧ J (downL la k) wr ∧ Bk wr g 39 #[.slice A la c] ∧ Hid (∀ b, b < w.heap.size → Kb b W wr)) (fun i _ => (intOf i + 1).toNat)
 case atStart => exact ⟨0, by omega, by simp, h0, q, Hi (fun _ _ => rfl)⟩
 case round =>
  obtain ⟨k, hk, rfl, hJr, qr, HK⟩ := hrel
  have c0 := qr.cell 0
  have l0 := qr.lt
  by_cases hlt : k < la
  ·obtain ⟨x, hx⟩ : ∃ x, ws[la - 1 - k]? = some x := ⟨_, List.getElem?_eq_getElem (by have := HLA.out; omega)⟩
   obtain ⟨b1, o1, rfl, hl1, hd1⟩ := H1.out (la - 1 - k) x hx
   have d1 : wr.cell? ⟨b1, o1 + (la - 1 - k), none⟩ = some (wd x) := by
    have h1 := hd1 W HW.out
    have h2 := HK.out b1 hl1
    unfold World.cell? at h1 ⊢
    rw [show wr.heap[(⟨b1, o1 + (la - 1 - k), none⟩ : Addr).block]? = W.heap[(⟨b1, o1 + (la - 1 - k), none⟩ : Addr).block]? from h2]
    exact h1
   have hi : ((la : Int) - 1 - k) = ((la - 1 - k : Nat) : Int) := by omega
   obtain ⟨fn, tmps, assign, body, hy, hR⟩ := HY.out (downL la k) (la - 1 - k) wr hJr (by rw [downL_len]; omega)
   rw [hi]
   have hlk : la - 1 - k < la := by omega
   generalize hj : la - 1 - k = j at *
   simp only [bwE, List.getD_eq_getElem?_getD, hx, Option.getD_some] at hy
   have HJ := Lib.hid hj
   clear hj
   gi_wp2_with fail
   refine ⟨fun h => (by cases h), hR.mono ?_⟩
   rintro e W3 (⟨rfl, hJ3, hk3⟩ | ⟨rfl, hJx3⟩)
   ·have q3 : Bk W3 g 39 #[.slice (some ⟨b1, o1, none⟩) la c] := hk3.1.trans qr
    have HK3 := Hi (show ∀ b, b < w.heap.size → Kb b W W3 from fun b hb => (hk3.2 b hb).trans (HK.out b hb))
    clear hk3 HK c0 l0 d1
    gi_wp2_with fail
    go_roundw
    case rel => exact ⟨k + 1, by omega, by have := HJ.out; simp; omega, by rw [downL, HJ.out]; exact hJ3, q3, HK3⟩
    case measure => simp [intOf]
   ·gi_wp2_with fail
    refine bodyPost_ret (results_none rfl _ _ _) rfl ?_
    refine ⟨⟨_, rfl⟩, .inr ⟨downL la k ++ [j], ?_, hJx3⟩⟩
    rw [← HJ.out]
    exact downL_pre la (k + 1) la (by omega)
  ·obtain rfl : k = la := by omega
   gi_wp2_with fail
   go_end0
   exact ⟨⟨_, rfl⟩, .inl ⟨_, rfl, hJr⟩⟩
def KbW (w : World) (g : Nat) (W W' : World) : Prop := Kb g W W' ∧ ∀ b, b < w.heap.size → Kb b W W'
theorem kbW_t {w : World} {g : Nat} {A B C : World} (h : KbW w g A B) (k : KbW w g B C) : KbW w g A C := ⟨k.1.trans h.1, fun b hb => (k.2 b hb).trans (h.2 b hb)⟩
theorem kbW_b {w W0 : World} {g : Nat} (hg : g < W0.heap.size) (hw : w.heap.size ≤ W0.heap.size) (W : World) (l : Nat) (o o' : Obj) (hl : W0.heap.size ≤ l) (_ : W.heap[l]? = some o) (_ : o.isCells = false) (_ : o.isWalk = false) : KbW w g W (W.putObj l o') :=
 ⟨World.putObj_heap_other (by omega), fun _ _ => World.putObj_heap_other (by omega)⟩
theorem back_stops (n g : Nat) (ws : List Nat) (A : Option Addr) (c : Nat) (hl1 : ws.length ≤ 1000) (w : World) (H : ∀ k x, ws[k]? = some x → ∃ b o, A = some ⟨b, o, none⟩ ∧ b < w.heap.size ∧ ∀ W, Below w.heap.size w W → W.cell? ⟨b, o + k, none⟩ = some (wd x)) (W0 : World) (hW0 : Below w.heap.size w W0) (q : Bk W0 g 39 #[.slice A ws.length c]) :
  SeqStopsK Fence.wide n prog 550 #[.pointer (some ⟨g, 0, none⟩)] (bwE ws) (KbW w g) (fun xs => xs = downL ws.length ws.length) (fun pre => pre <+: downL ws.length ws.length) ws.length W0 := fun l J Jx W hW hJ _ hY h0 =>
 back1_in n l g ws A c hl1 w H J Jx W (hW0.trans (hW.mono hW0.size)) (q.kept hW) hJ hY h0
def lowV (ws : List Nat) (l : List Nat) : Nat := l.foldl (fun v k => v * 4294967296 % 18446744073709551616 + ws.getD k 0) 0
theorem lowV_snoc (ws l : List Nat) (k : Nat) : lowV ws (l ++ [k]) = lowV ws l * 4294967296 % 18446744073709551616 + ws.getD k 0 := by simp [lowV, List.foldl_append]
theorem lowV_two (ws : List Nat) (hl : ws.length ≤ 2) (hd : ∀ d ∈ ws, d < 4294967296) : lowV ws (downL ws.length ws.length) = vW ws := by
 match ws, hl, hd with
 | [], _, _ => rfl
 | [a], _, hd => simp [downL, lowV, vW]
 | [a, b], _, hd =>
  have h2 := hd b (by simp)
  simp [downL, lowV, vW]
  omega
 | a :: b :: c :: l, hl, _ => simp at hl
theorem or_low (v x : Nat) (hx : x < 4294967296) : bits .or .u64 (IntKind.u64.wrap ((v : Int) * 4294967296)) (IntKind.u64.wrap (x : Int)) = ((v * 4294967296 % 18446744073709551616 + x : Nat) : Int) := by
 have e1 : IntKind.u64.wrap ((v : Int) * 4294967296) = ((v * 4294967296 % 18446744073709551616 : Nat) : Int) := by
  show ((v : Int) * 4294967296) % 18446744073709551616 = _
  omega
 have e2 : IntKind.u64.wrap (x : Int) = (x : Int) := IntWalk.u64_in _ ⟨by omega, by omega⟩
 rw [e1, e2, bits_or_u64_nat _ _ (Nat.mod_lt _ (by omega)) (by omega)]
 have e3 : v * 4294967296 % 18446744073709551616 = 2 ^ 32 * (v % 4294967296) := by omega
 rw [e3, ← Nat.two_pow_add_eq_or_of_lt (show x < 2 ^ 32 by omega)]
theorem wrap64_small {n : Int} (h0 : 0 ≤ n) (h1 : n < 9223372036854775808) : wrap64 n = n := by
 unfold wrap64
 omega
theorem Low_calls (z : Nat) (m : Value) (w : World) (h : IV w m z) (hz : z < 9223372036854775808) :
  Calls prog 326 #[.agg #[.bool false, m]] w fun e w' => e = .returned (.tuple #[.int .i64 z, .bool true]) ∧ Below w.heap.size w w' := by
 obtain ⟨ws, hc, hr⟩ := h
 have hl := hc.len (n := 2) (by omega)
 obtain ⟨A, c, rfl, _, H⟩ := hr.at
 refine (callsIn_wide (n := 9)).1 ?_
 refine callsIn_of_wp_marks func326 rfl trivial ?_ rfl
 simp only [ntmps326, List.size_toArray, List.length_cons, List.length_nil, Nat.reduceAdd, Nat.reduceSub, Array.replicate_succ, Array.replicate_zero, List.push_toArray, List.append_toArray, List.nil_append, List.cons_append]
 have HH := Lib.hid H
 have HC := Lib.hid hc
 clear H hr hc
 generalize hla : ws.length = la at *
 have HLA := Lib.hid hla
 clear hla
 have hd2 : decide (2 < la) = false := by simp; omega
 have hd2' : decide ((2 : Int) < (la : Int)) = false := by simp; omega
 have qa := ((Bk.new w 41 #[.bool false, .slice A la c]).alloc (.cells #[.int .u64 0] 158)).alloc (.cells #[.slice A la c] 39)
 have qv := (Bk.new (w.alloc (.cells #[.bool false, .slice A la c] 41)) 158 #[.int .u64 0]).alloc (.cells #[.slice A la c] 39)
 have qs := Bk.new ((w.alloc (.cells #[.bool false, .slice A la c] 41)).alloc (.cells #[.int .u64 0] 158)) 39 #[.slice A la c]
 simp only [World.size_alloc] at qv qs
 have hB2 : Below w.heap.size w (((w.alloc (.cells #[.bool false, .slice A la c] 41)).alloc (.cells #[.int .u64 0] 158)).alloc (.cells #[.slice A la c] 39)) := (((Below.refl _ _).alloc (Nat.le_refl _) _).alloc (by simp) _).alloc (by simp; omega) _
 gi_wp2_with fail
 refine atn ((back_calls _ ⟨_, _, _, rfl⟩ _).mono ?_)
 rintro e w2 ⟨rfl, rfl⟩
 gi_wp2_with fail
 generalize ((w.alloc _).alloc _).alloc _ = W2 at *
 rw [← HLA.out] at qs
 refine wpIn_rangeFunc_ownH rfl (by omega) (gf := 550) (lb := #[.pointer (some ⟨w.heap.size + 1 + 1, 0, none⟩)]) rfl trivial (enters_of func550 (by kernel_rfl) rfl)
  (back_stops _ (w.heap.size + 1 + 1) ws A c (by have := HLA.out; omega) w HH.out W2 hB2 qs) kbW_t (kbW_b qs.lt hB2.size) (Below.refl _ _) (fun _ => rfl)
  (fun pre W => Bk W (w.heap.size + 1) 158 #[.int .u64 (lowV ws pre : Nat)] ∧ Bk W w.heap.size 41 #[.bool false, .slice A la c] ∧ Below w.heap.size w W ∧ Hid (lowV ws pre < 18446744073709551616))
  (fun _ _ _ => False)
  (OwnFrom.and (Own.from (bk_own _ _ _) _) (OwnFrom.and (Own.from (bk_own _ _ _) _) (OwnFrom.and (ownFrom_below (Nat.le_refl _) hB2.size) (ownFrom_pure _ _))))
  (fun _ _ _ _ _ hs _ _ => hs)
  ⟨qv, qa, hB2, Hi (show (0 : Nat) < _ by omega)⟩
  (fun x a' _ => a' = { tmps := #[.agg #[.bool false, .slice A la c], .pointer (some ⟨w.heap.size, 0, none⟩), .int .i64 0, .bool false, .pointer (some ⟨w.heap.size + 1, 0, none⟩), undef, wd (ws.getD x 0), undef, .pointer (some ⟨w.heap.size, 1, none⟩), .slice A la c, .int .i64 la, .bool false, .pointer (some ⟨w.heap.size, 1, none⟩), .slice A la c, .func (.func 550) #[] #[.pointer (some ⟨w.heap.size + 1 + 1, 0, none⟩)], .int .i64 (x : Int), wd (ws.getD x 0), undef, undef, undef, undef, undef, undef, undef, undef, undef, undef, undef, undef, undef, undef, undef, undef, undef, undef, undef, undef, undef], defers := [] })
  (fun x a' s X Y row hs hg hr => hs)
  ?assign ?body ?done ?stop
 case assign =>
  rintro l pre x W K hI hK
  gi_wp2_with fail
  exact hK _ _ (KeepsFrom.refl _ _) ⟨rfl, fun _ _ => rfl⟩ hI rfl
 case body =>
  rintro l pre x a' W hl' ⟨r, hr⟩ ⟨hv, ha, hB, HL⟩ rfl hlen
  have v0 := hv.cell 0
  have vf := hv.frozen 0
  have vl := hv.lt
  have hw : ws.getD x 0 < 4294967296 := by
   by_cases hx : x < ws.length
   ·simp only [List.getD_eq_getElem?_getD, List.getElem?_eq_getElem hx, Option.getD_some]
    exact HC.out.lt _ (List.getElem_mem hx)
   ·simp [Nat.not_lt.1 hx]
  have hO := or_low (lowV ws pre) (ws.getD x 0) hw
  have HS := Hi (lowV_snoc ws pre x)
  have HWW := Lib.hid hw
  simp only [List.getD_eq_getElem?_getD] at hO HS
  have HO := Lib.hid hO
  clear hw hO
  gi_wp2_with fail
  rw [HO.out, ← HS.out]
  refine ⟨(KeepsOthers.setCell W _ _).from _, ⟨Below.heap_setCell _ _ _ _ (by simp), fun b hb => Below.heap_setCell _ _ _ _ (by simp; omega)⟩, hv.put 0 _, ha.far _ (by simp), hB.setCell (by simp) _, Lib.hid ?_⟩
  rw [lowV_snoc]
  have := HWW.out
  omega
 case done =>
  rintro D ys W hD rfl ⟨hv, ha, hB, HL⟩ hK
  have hz' : lowV ws (downL ws.length ws.length) = z := by rw [lowV_two ws (by have := HLA.out; omega) HC.out.lt, HC.out.val]
  rw [hz'] at hv
  have hwz : wrap64 (z : Int) = (z : Int) := wrap64_small (by omega) (by omega)
  have hng : decide ((z : Int) < 0) = false := by simp
  have v0 := hv.cell 0
  have vl := hv.lt
  have a0 := ha.cell 0
  have al := ha.lt
  clear hz'
  have HB := Hi (And.intro hB hK)
  rcases Nat.eq_zero_or_pos z with h0 | h0
  ·subst h0
   gi_wp2_with fail
   refine ⟨by simp, .inl ⟨_, _, rfl, run_takeDeferred HB.out.2, ?_⟩⟩
   exact ⟨.tuple #[.int .i64 0, .bool true], by simp [results, results326, go_sem], rfl, HB.out.1.trans (belowK_b (w := w) (Nat.le_refl _) W D _ _ (by have := hB2.size; omega) HB.out.2 rfl rfl)⟩
  ·have hnz : ((z : Int) != 0) = true := by simp; omega
   gi_wp2_with fail
   refine ⟨by simp, .inl ⟨_, _, rfl, run_takeDeferred HB.out.2, ?_⟩⟩
   exact ⟨.tuple #[.int .i64 z, .bool true], by simp [results, results326, go_sem], rfl, HB.out.1.trans (belowK_b (w := w) (Nat.le_refl _) W D _ _ (by have := hB2.size; omega) HB.out.2 rfl rfl)⟩
 case stop =>
  rintro D c pre W _ _ h _
  exact h.elim
end Go.Proofs.YtpmklccphbklaaaGreatDoor
namespace Go.Proofs.YtpmklccphbklaaaGreatDoor
open Go.RowKit Go.Shelf Go.Proofs.Tryz
set_option maxRecDepth 100000
set_option maxHeartbeats 2000000
structure DivAt (a o : List Nat) (d k r : Nat) : Prop where
 len : o.length = a.length
 lt : ∀ x ∈ o, x < 4294967296
 val : vW (a.drop k) = vW (o.drop k) * d + r
 r : r < d
theorem DivAt.start (a : List Nat) {d : Nat} (hd : 0 < d) : DivAt a (List.replicate a.length 0) d a.length 0 :=
 ⟨by simp, fun x hx => by rw [List.eq_of_mem_replicate hx]; decide, by simp [vW], hd⟩
theorem div_word {r x d : Nat} (hr : r < d) (hx : x < 4294967296) : (r * 4294967296 + x) / d < 4294967296 := by
 rw [Nat.div_lt_iff_lt_mul (by omega)]
 have : (r + 1) * 4294967296 ≤ d * 4294967296 := Nat.mul_le_mul_right _ hr
 rw [Nat.mul_comm 4294967296 d]
 omega
theorem DivAt.next {a o : List Nat} {d k r x : Nat} (h : DivAt a o d (k + 1) r) (hx : a[k]? = some x) (hxl : x < 4294967296) :
  DivAt a (o.set k ((r * 4294967296 + x) / d)) d k ((r * 4294967296 + x) % d) := by
 have hk : k < a.length := (List.getElem?_eq_some_iff.1 hx).1
 have hr := h.r
 have hko : k < o.length := by rw [h.len]; exact hk
 refine ⟨by simpa using h.len, fun y hy => ?_, ?_, Nat.mod_lt _ (by omega)⟩
 ·rcases List.mem_or_eq_of_mem_set hy with h1 | h1
  ·exact h.lt y h1
  ·rw [h1]; exact div_word hr hxl
 ·have e1 := vW_drop a k
  have e2 := vW_drop (o.set k ((r * 4294967296 + x) / d)) k
  rw [show (o.set k ((r * 4294967296 + x) / d)).drop (k + 1) = o.drop (k + 1) from List.drop_set_of_lt (by omega)] at e2
  have g1 : a.getD k 0 = x := by simp [hx]
  have g2 : (o.set k ((r * 4294967296 + x) / d)).getD k 0 = (r * 4294967296 + x) / d := by simp [hko]
  rw [g1, h.val] at e1
  rw [g2] at e2
  rw [e1, e2]
  have e3 := Nat.div_add_mod (r * 4294967296 + x) d
  rw [Nat.add_mul, Nat.mul_assoc, Nat.mul_add, Nat.mul_comm ((r * 4294967296 + x) / d) d]
  generalize (r * 4294967296 + x) % d = m at *
  generalize d * ((r * 4294967296 + x) / d) = n at *
  generalize vW (o.drop (k + 1)) * d = v at *
  omega
theorem DivAt.done {a o : List Nat} {d r : Nat} (h : DivAt a o d 0 r) : vW o = vW a / d ∧ r = vW a % d := by
 have hv := h.val
 have hr := h.r
 rw [List.drop_zero, List.drop_zero] at hv
 rw [hv]
 constructor
 ·rw [Nat.mul_comm, Nat.mul_add_div (by omega), Nat.div_eq_of_lt hr, Nat.add_zero]
 ·rw [Nat.mul_comm, Nat.mul_add_mod, Nat.mod_eq_of_lt hr]
section
attribute [local go_sem] Oper.semAt_some gwideFn gwideDepth
theorem Div32g_calls (h x d : Nat) (w : World) (hd : h < d) (hx : x < 4294967296) (hd' : d < 4294967296) :
  Calls prog 100 #[.int .u32 h, .int .u32 x, .int .u32 d] w fun e w' => e = .returned (.tuple #[.int .u32 ((h * 4294967296 + x) / d : Nat), .int .u32 ((h * 4294967296 + x) % d : Nat)]) ∧ ∃ q, w' = w.drewN q := by
 have hne : ((d : Int) != 0) = true := by simp; omega
 have hle : decide ((d : Int) ≤ (h : Int)) = false := by simp; omega
 have hn0 : ¬ d = 0 := by omega
 have hor := or_low h x hx
 have hm : h * 4294967296 % 18446744073709551616 + x = h * 4294967296 + x := by omega
 rw [hm] at hor
 have hdw := div_word hd hx
 obtain ⟨z, hz⟩ : ∃ z, z = h * 4294967296 + x := ⟨_, rfl⟩
 rw [← hz] at hor hdw ⊢
 have hzl : z < 18446744073709551616 := by omega
 have hq : (z : Int) / (d : Int) = ((z / d : Nat) : Int) := (Int.natCast_ediv z d).symm
 have hw : IntKind.u64.wrap ((z : Int) / (d : Int)) = (z : Int) / (d : Int) := by
  rw [hq]
  have hk0 : z / d ≤ z := Nat.div_le_self _ _
  generalize z / d = k at *
  exact IntWalk.u64_in _ ⟨by omega, by omega⟩
 have hw2 : ((z : Int) / (d : Int)) % 4294967296 = (z : Int) / (d : Int) := by
  rw [hq]
  generalize z / d = k at *
  omega
 have w1 : IntKind.u64.wrap ((h : Int) * 4294967296) = (h : Int) * 4294967296 := IntWalk.u64_in _ ⟨by omega, by omega⟩
 have w2 : IntKind.u64.wrap (x : Int) = (x : Int) := IntWalk.u64_in _ ⟨by omega, by omega⟩
 rw [w1, w2] at hor
 have hm2 : (z : Int) % (d : Int) % 4294967296 = (z : Int) % (d : Int) := by
  rw [← Int.natCast_emod]
  have := Nat.mod_lt z (show 0 < d by omega)
  generalize z % d = k at *
  omega
 have ht1 : (z : Int).tdiv (d : Int) = (z : Int) / (d : Int) := Int.tdiv_eq_ediv_of_nonneg (by omega)
 have ht2 : (z : Int).tmod (d : Int) = (z : Int) % (d : Int) := Int.tmod_eq_emod_of_nonneg (by omega)
 clear hdw hm hz hq w1 w2
 refine (callsIn_wide (n := 9)).1 ?_
 refine callsIn_of_wp func100 rfl trivial ?_ rfl
 simp only [ntmps100, List.size_toArray, List.length_cons, List.length_nil, Nat.reduceAdd, Nat.reduceSub, Array.replicate_succ, Array.replicate_zero, List.push_toArray, List.append_toArray, List.nil_append, List.cons_append]
 gi_wp2_with fail
 gi_big_quiet_th (fail)
 gi_wp2_with fail
 go_ret2
 exact ⟨by simp, nq, rfl⟩
end
theorem gdiv_words (a : List Nat) (d : Nat) (ma : Value) (w : World) (ha : RdU w 152 ma a.length (a.map wd)) (hal : a.length ≤ 1000) (ha' : ∀ x ∈ a, x < 4294967296) (hd : 0 < d) (hd' : d < 4294967296) :
  Calls prog 55 #[ma, .int .u32 d] w fun e w' => ∃ m ws, e = .returned (.tuple #[m, .int .u32 (vW a % d : Nat)]) ∧ RdU w' 152 m ws.length (ws.map wd) ∧ Cw ws (vW a / d) ∧ Below w.heap.size w w' := by
 obtain ⟨A1, c1, rfl, hc1, h1⟩ := ha.at
 have hmk := run_mkN a.length (by omega) w
 have H1 := Lib.hid h1
 have HA := Lib.hid ha'
 have HD := Hi (fun h x W h1 h2 => Div32g_calls h x d W h1 h2 hd')
 clear ha h1 ha' hc1
 obtain ⟨la, hla⟩ : ∃ la, la = a.length := ⟨_, rfl⟩
 have HLA := Lib.hid hla
 rw [← hla] at hmk hal ⊢
 clear hla
 have hB0 : Below w.heap.size w (w.alloc (.cells (wdA (List.replicate la 0)) 152)) := (Below.refl _ _).alloc (Nat.le_refl _) _
 have q0 := Bk.new w 152 (wdA (List.replicate la 0))
 have HS := Hi (And.intro hB0 (And.intro q0 (show DivAt a (List.replicate la 0) d la 0 by rw [HLA.out]; exact DivAt.start a hd)))
 clear hB0 q0
 go_enter func55, ntmps55
 go_wp2_with fail
 clear hmk
 generalize w.alloc _ = W0 at *
 go_loopw [7, 8] (fun c i wr => ∃ (k r : Nat) (o : List Nat), i = .int .i64 ((k : Int) - 1) ∧ c = .int .u32 r ∧ k ≤ la ∧ Hid (Below w.heap.size w wr ∧ Bk wr w.heap.size 152 (wdA o) ∧ DivAt a o d k r)) (fun _ i _ => (intOf i + 1).toNat)
 case atStart => exact ⟨la, 0, _, rfl, rfl, Nat.le_refl _, HS⟩
 case round =>
  obtain ⟨k, r, o, rfl, rfl, hk, HR⟩ := hrel
  rcases k with _ | j
  ·have hdn := HR.out.2.2.done
   have hlen := HR.out.2.2.len
   have hr : Rd wr 1 (.slice (some ⟨w.heap.size, 0, none⟩) o.length la) o.length (o.map wd) := ⟨by simp, _, _, rfl, by rw [HLA.out]; omega, fun _ => ⟨_, _, rfl, HR.out.2.1.lt, fun i u hu => by
    rw [Nat.zero_add, HR.out.2.1.cell]; simpa [wdA] using hu⟩⟩
   have HT := Hi (ptrim_calls o _ _ wr hr (by have := HLA.out; omega))
   rw [show o.length = la by rw [HLA.out]; exact hlen] at HT
   have HV := Lib.hid hdn
   clear hdn hlen hr
   go_wp2_with fail
   refine HT.out.mono ?_
   rintro e w' ⟨rfl, rfl⟩
   go_wp2_with fail
   rw [HV.out.2]
   go_ret2
   have hcw := Cw.of (ws := o) HR.out.2.2.lt
   rw [HV.out.1] at hcw
   refine ⟨_, trimL o, rfl, ⟨by simp, _, _, rfl, ?_, fun _ => ⟨_, _, _, rfl, HR.out.2.1, fun i u hu => ?_⟩⟩, hcw, HR.out.1⟩
   ·have h1 := trimL_len o
    have h2 := HR.out.2.2.len
    have h3 := HLA.out
    omega
   ·obtain ⟨r, hr⟩ := trimL_prefix o
    rw [Nat.zero_add]
    have : ((trimL o).map wd)[i]? = some u := hu
    simp only [wdA, List.getElem?_toArray]
    rw [hr, List.map_append, List.getElem?_append_left (List.getElem?_eq_some_iff.1 this).1]
    exact this
  ·obtain ⟨x, hx⟩ : ∃ x, a[j]? = some x := ⟨_, List.getElem?_eq_getElem (by have := HLA.out; omega)⟩
   obtain ⟨b1, o1, rfl, hl1, hd1⟩ := H1.out j _ hx
   have d1 := hd1 wr HR.out.1
   have hlx := Nat.lt_of_lt_of_le hl1 HR.out.1.size
   have hxl : x < 4294967296 := HA.out _ (List.mem_of_getElem? hx)
   have HX := Hi (And.intro hx hxl)
   obtain ⟨old, ho⟩ : ∃ old, o[j]? = some old := ⟨_, List.getElem?_eq_getElem (by have := HR.out.2.2.len; have := HLA.out; omega)⟩
   have e0 := HR.out.2.1.cell j
   rw [wdA_get ho] at e0
   have ez := HR.out.2.1.frozen j
   have qlt := HR.out.2.1.lt
   have hrd := HR.out.2.2.r
   rw [show (((j + 1 : Nat) : Int) - 1) = (j : Int) by omega]
   clear hx hd1 ho
   go_wp2_with fail
   refine (HD.out r x _ hrd hxl).mono ?_
   rintro e w1 ⟨rfl, nq, rfl⟩
   have hB' := HR.out.1.trans ((gdrewN wr nq).mono HR.out.1.size)
   have HQ' := Hi (HR.out.2.1.kept (gdrewN wr nq))
   have hnx := HR.out.2.2.next HX.out.1 HX.out.2
   go_wp2_with fail
   refine ⟨⟨j, _, _, rfl, rfl, by omega, Lib.hid ⟨hB'.setCell (by simp) _, ?_, hnx⟩⟩, by simp [intOf]⟩
   rw [← wdA_set]
   exact HQ'.out.put _ _
theorem gdiv_calls (z d n : Nat) (m : Value) (w : World) (h : IV w m z) (hz : z < 4294967296 ^ n) (hn : n ≤ 1000) (hd : 0 < d) (hd' : d < 4294967296) :
  Calls prog 55 #[m, .int .u32 d] w fun e w' => ∃ m', e = .returned (.tuple #[m', .int .u32 (z % d : Nat)]) ∧ IV w' m' (z / d) ∧ Below w.heap.size w w' := by
 obtain ⟨a, ca, ra⟩ := h
 refine (gdiv_words a d m w ra (Nat.le_trans (ca.len hz) hn) ca.lt hd hd').mono ?_
 rintro e w' ⟨m', ws, rfl, hr, hc, hB⟩
 rw [ca.val] at hc ⊢
 exact ⟨m', rfl, ⟨ws, hc, hr⟩, hB⟩
set_option maxRecDepth 100000
set_option maxHeartbeats 4000000
structure Ints3 (W : World) (g : Nat) (p a b : Nat) (m0 m1 m2 : Value) (cap : Nat) : Prop where
 q : ∃ cur, Bk W g 41 cur ∧ cur[0]? = some (.bool false) ∧ cur[1]? = some m0 ∧ cur[2]? = some (.bool false) ∧ cur[3]? = some m1 ∧ cur[4]? = some (.bool false) ∧ cur[5]? = some m2
 cap : 3 ≤ cap
 h0 : NV W m0 p
 h1 : NV W m1 a
 h2 : NV W m2 b
theorem Ints3.kept {W W' : World} {g p a b : Nat} {m0 m1 m2 : Value} {cap : Nat} (h : Ints3 W g p a b m0 m1 m2 cap) (hb : Below W.heap.size W W') : Ints3 W' g p a b m0 m1 m2 cap := by
 obtain ⟨⟨cur, q, hc⟩, h1, h2, h3, h4⟩ := h
 exact ⟨⟨cur, q.kept hb, hc⟩, h1, h2.kept hb, h3.kept hb, h4.kept hb⟩
theorem NV.iv {W : World} {m : Value} {z : Nat} (h : NV W m z) (hz : z < 18446744073709551616) : IV W m z := ⟨wordsOf z, Cw.small hz, h⟩
theorem IV.nv {W : World} {m : Value} {z : Nat} (h : IV W m z) (hz : z < 18446744073709551616) : NV W m z := by
 obtain ⟨ws, hc, hr⟩ := h
 rw [hc.uniq (Cw.small hz)] at hr
 exact hr
theorem small_pow {z : Nat} (h : z < 4294967296) : z < 4294967296 ^ 1 := by omega
theorem gSign_calls (z n : Nat) (m : Value) (w : World) (h : IV w m z) (hz : z < 4294967296 ^ n) :
  Calls prog 90 #[.agg #[.bool false, m]] w fun e w' => e = .returned (.int .i64 (if z = 0 then 0 else 1)) ∧ Below w.heap.size w w' := by
 obtain ⟨ws, hc, hr⟩ := h
 have hl := hc.len hz
 obtain ⟨A, c, rfl, _, _⟩ := hr.at
 by_cases h0 : z = 0
 ·subst h0
  have hw := hc.zero
  subst hw
  rw [if_pos rfl]
  clear hc hr hz
  go_enter func90, ntmps90
  go_wp2
  go_ret
  exact ⟨rfl, (Below.refl _ _).alloc (Nat.le_refl _) _⟩
 ·rw [if_neg h0]
  have hp := hc.pos (Nat.pos_of_ne_zero h0)
  have hne : ((ws.length : Int) == 0) = false := by rw [beq_eq_false_iff_ne]; omega
  clear hc hr hz h0
  go_enter func90, ntmps90
  go_wp2
  go_ret
  exact ⟨rfl, (Below.refl _ _).alloc (Nat.le_refl _) _⟩
theorem gskBw {w W W' : World} (h : Below w.heap.size w W) (k : (∀ b o, b < W.heap.size → W'.cell? ⟨b, o, none⟩ = W.cell? ⟨b, o, none⟩) ∧ Below W.heap.size W W') : Below w.heap.size w W' := h.trans (k.2.mono h.size)
theorem gcmpN_cases (x y : Nat) : cmpN x y = -1 ∨ cmpN x y = 0 ∨ cmpN x y = 1 := by
 unfold cmpN
 split
 ·simp
 ·split <;> simp
theorem gICmp_calls (x y n k : Nat) (ma mb : Value) (w : World) (ha : IV w ma x) (hb : IV w mb y) (hx : x < 4294967296 ^ n) (hy : y < 4294967296 ^ k) (hn : n ≤ 1000) (hk : k ≤ 1000) :
  Calls prog 70 #[.agg #[.bool false, ma], .agg #[.bool false, mb]] w fun e w' => e = .returned (.int .i64 (cmpN x y)) ∧ Below w.heap.size w w' := by
 have HC := Hi (fun W (h : Below w.heap.size w W) => (gcmp_calls x y n k ma mb W (ha.kept h) (hb.kept h) hx hy hn hk).mono (R' := fun e w' => e = .returned (.int .i64 (cmpN x y)) ∧ Below W.heap.size W w') (fun e w' ⟨h1, q, h2⟩ => ⟨h1, by rw [h2]; exact gdrewN W q⟩))
 have HSg := Hi (fun W (h : Below w.heap.size w W) => (gSign_calls x n ma W (ha.kept h) hx).mono (R' := fun e w' => e = .returned (.int .i64 (if x = 0 then 0 else 1)) ∧ Below W.heap.size W w') (fun e w' hh => hh))
 have hs01 : (if x = 0 then (0 : Int) else 1) = 0 ∨ (if x = 0 then (0 : Int) else 1) = 1 := by split <;> simp
 generalize (if x = 0 then (0 : Int) else 1) = s at *
 have Hs01 := Lib.hid hs01
 clear hs01
 have HO := Hi (fun (W0 : World) (q : Nat) => Or_calls [s, 1] W0.heap.size 2 ((W0.alloc (.cells #[.int .i64 s, .int .i64 1] 3)).drewN q) (by simp) (fun j x h => by
  rw [((Bk.new W0 3 #[.int .i64 s, .int .i64 1]).kept (gdrewN _ q)).cell]
  match j, h with
  | 0, h => (simp at h; subst h; rfl)
  | 1, h => (simp at h; subst h; rfl)))
 obtain ⟨A1, nx, c1, rfl⟩ := ha.slice
 obtain ⟨A2, ny, c2, rfl⟩ := hb.slice
 clear ha hb hx hy
 have Hcc := gcmpN_cases x y
 generalize cmpN x y = cc at *
 go_enter func70, ntmps70
 go_wp2_with fail
 have hB0 : Below w.heap.size w ((w.alloc (.cells #[.bool false, .slice A1 nx c1] 41)).alloc (.cells #[.bool false, .slice A2 ny c2] 41)) := ((Below.refl _ _).alloc (Nat.le_refl _) _).alloc (by simp) _
 have q2 := (Bk.new w 41 #[.bool false, .slice A1 nx c1]).alloc (.cells #[.bool false, .slice A2 ny c2] 41)
 have q3 := Bk.new (w.alloc (.cells #[.bool false, .slice A1 nx c1] 41)) 41 #[.bool false, .slice A2 ny c2]
 simp only [World.size_alloc] at q3
 generalize (w.alloc _).alloc _ = W at *
 have d0 := q2.cell 0
 have d1 := q2.cell 1
 have e0 := q3.cell 0
 have e1 := q3.cell 1
 have l2 := q2.lt
 have l3 := q3.lt
 have HB := Lib.hid hB0
 clear hB0
 go_region_held3 (fun w' => (∀ b o, b < W.heap.size → w'.cell? ⟨b, o, none⟩ = W.cell? ⟨b, o, none⟩) ∧ Below W.heap.size W w')
  (first | exact sk_start _ | exact sk_step (by assumption) (by assumption) | exact sk_alloc (by assumption) _ | assumption)
  (first
   | (go_at_call 114; refine (HC.out _ (gskBw HB.out (by assumption))).mono ?_; rintro e w' ⟨rfl, hbb⟩)
   | (go_at_call 90; refine (HSg.out _ (gskBw HB.out (by assumption))).mono ?_; rintro e w' ⟨rfl, hbb⟩)
   | (go_at_call 121; refine (HO.out _ 0).mono ?_; rintro e w' ⟨rfl, rfl⟩))
 rename_i hH
 have hBq := hH.2
 have hw1 : IntKind.i64.wrap (cc * orZ [s, 1]) = cc := by rcases Hs01.out with h' | h' <;> rcases Hcc with h | h | h <;> rw [h, h'] <;> decide
 rw [hw1]
 go_wp2_with fail
 go_ret
 exact ⟨rfl, HB.out.trans (hBq.mono HB.out.size)⟩
theorem rdU_set2 {W : World} {v : Value} {n g : Nat} {xs : List Value} {t : TypeId} {cs : Array Value} (h : RdU W 152 v n xs) (q : Bk W g t cs) (ht : t ≠ 152) (u u' : Value) : RdU ((W.setCell ⟨g, 0, none⟩ u).setCell ⟨g, 1, none⟩ u') 152 v n xs := by
 obtain ⟨hl, A, c, rfl, hc, hx⟩ := h
 refine ⟨hl, A, c, rfl, hc, fun h0 => ?_⟩
 obtain ⟨b, o, cur, rfl, hb, hv⟩ := hx h0
 have hb' : Bk W b 152 cur := hb
 exact ⟨b, o, cur, rfl, (hb'.far (p := ⟨g, 0, none⟩) u (Bk.ne hb' q (Ne.symm ht))).far (p := ⟨g, 1, none⟩) u' (Bk.ne hb' q (Ne.symm ht)), hv⟩
theorem eof_calls (n : Nat) (w : World) (hn : n < 4294967296) : Calls prog 194 #[.int .i64 n] w (RetInt w false (wordsOf n)) := by
 have HO := Hi (fun W => pOf_calls n W hn)
 go_enter func194, ntmps194
 have q0 := Bk.new w 41 #[.bool false, .slice none 0 0]
 have hB0 := (Below.refl w.heap.size w).alloc (Nat.le_refl _) (.cells #[.bool false, .slice none 0 0] 41)
 go_wp2_with fail
 refine (HO.out _).mono ?_
 rintro e w1 ⟨mg, rfl, hB, hR⟩
 obtain ⟨A, k, rfl⟩ : ∃ A k, mg = .slice A (wordsOf n).length k := by obtain ⟨_, A, c, hv, _⟩ := hR; exact ⟨A, c, hv⟩
 have q1 := q0.kept hB
 have hB1 := hB0.trans (hB.mono hB0.size)
 have z0 := q1.cell 0
 have z1 := q1.cell 1
 have y0 := q1.frozen 0
 have y1 := q1.frozen 1
 have zl := q1.lt
 have HQ := Hi (And.intro q1 (And.intro hB1 hR))
 clear q0 hB0 q1 hB1 hB hR
 go_wp2_with fail
 have q2 := (HQ.out.1.put 0 (.bool false)).put 1 (.slice A (wordsOf n).length k)
 have c0 := q2.cell 0
 have c1 := q2.cell 1
 refine bodyPost_end (v := .agg #[.bool false, .slice A (wordsOf n).length k]) (by simp [results, results194, go_sem, c0, c1]) rfl ⟨_, rfl, (HQ.out.2.1.setCell (by simp) _).setCell (by simp) _, ?_⟩
 exact rdU_set2 HQ.out.2.2 HQ.out.1 (by decide) _ _
theorem cmpN_ge (x lo : Nat) : decide (0 ≤ cmpN x lo) = decide (lo ≤ x) := by
 unfold cmpN
 rcases Nat.lt_trichotomy x lo with h | h | h
 ·rw [if_pos h]; simp; omega
 ·rw [if_neg (by omega), if_neg (by omega)]; simp; omega
 ·rw [if_neg (by omega), if_pos h]; simp; omega
theorem cmpN_le (x hi : Nat) : decide (cmpN x hi ≤ 0) = decide (x ≤ hi) := by
 unfold cmpN
 rcases Nat.lt_trichotomy x hi with h | h | h
 ·rw [if_pos h]; simp; omega
 ·rw [if_neg (by omega), if_neg (by omega)]; simp; omega
 ·rw [if_neg (by omega), if_pos h]; simp; omega
theorem within_calls (x lo hi : Nat) (m : Value) (w : World) (h : NV w m x) (hx : x < 4294967296) (hl : lo < 4294967296) (hh : hi < 4294967296) (hlx : lo ≤ x) :
  Calls prog 221 #[.agg #[.bool false, m], .int .i64 lo, .int .i64 hi] w fun e w' => e = .returned (.bool (decide (x ≤ hi))) ∧ Below w.heap.size w w' := by
 have HC := Hi (fun (y : Nat) mb W (h1 : Below w.heap.size w W) (hb : NV W mb y) (hy : y < 4294967296) => gICmp_calls x y 1 1 m mb W ((h.kept h1).iv (by omega)) (hb.iv (by omega)) (small_pow hx) (small_pow hy) (by omega) (by omega))
 have HO1 := Hi (fun W => eof_calls lo W hl)
 have HO2 := Hi (fun W => eof_calls hi W hh)
 have hge : decide (0 ≤ cmpN x lo) = true := by rw [cmpN_ge]; simpa using hlx
 have HLE := Hi (cmpN_le x hi)
 obtain ⟨A, c, rfl⟩ := h.slice
 generalize (wordsOf x).length = nx at *
 have q := Bk.new w 41 #[.bool false, .slice A nx c]
 have hB0 := (Below.refl w.heap.size w).alloc (Nat.le_refl _) (.cells #[.bool false, .slice A nx c] 41)
 have HL := Hi (And.intro hl hh)
 clear h hx hl hh hlx
 go_enter func221, ntmps221
 go_upto_region 1 with (fail)
 generalize w.alloc _ = W at *
 have d0 := q.cell 0
 have d1 := q.cell 1
 have l2 := q.lt
 have HB := Lib.hid hB0
 clear hB0
 refine rgS W (fun hN => ?_)
 refine tkH 0 rfl ?_; go_simp
 refine tkH 1 rfl ?_; go_simp
 generalize hwd : W.drew = wd at *
 clear hwd
 refine rdH 2 rfl (fun K hK => ?_)
 go_simp
 refine (HO1.out _).mono ?_
 rintro e w1 ⟨mg, rfl, hb1, hR1⟩
 refine hK.out _ _ (sk_step hN hb1) (fun hHeld1 => ?_)
 clear hK K
 go_simp
 refine rdH 3 rfl (fun K hK => ?_)
 go_simp
 refine (HC.out lo _ _ (gskBw HB.out hHeld1) hR1 HL.out.1).mono ?_
 rintro e w2 ⟨rfl, hb2⟩
 refine hK.out _ _ (sk_step hHeld1 hb2) (fun hHeld2 => ?_)
 clear hK K hR1 hb1 hb2 hN hHeld1
 go_simp
 refine tkH 4 rfl ?_; go_simp
 refine tkH 5 rfl ?_; go_simp
 refine tkH 6 rfl ?_; go_simp
 refine tkH 7 rfl ?_; go_simp
 refine rdH 8 rfl (fun K hK => ?_)
 go_simp
 refine (HO2.out _).mono ?_
 rintro e w3 ⟨mg, rfl, hb1, hR1⟩
 refine hK.out _ _ (sk_step hHeld2 hb1) (fun hHeld3 => ?_)
 clear hK K
 go_simp
 refine rdH 9 rfl (fun K hK => ?_)
 go_simp
 refine (HC.out hi _ _ (gskBw HB.out hHeld3) hR1 HL.out.2).mono ?_
 rintro e w4 ⟨rfl, hb2⟩
 refine hK.out _ _ (sk_step hHeld3 hb2) (fun hHeld4 => ?_)
 clear hK K hR1 hb1 hb2 hHeld2 hHeld3
 go_simp
 refine tkH 10 rfl ?_; go_simp
 refine tkH 11 rfl ?_; go_simp
 refine tkH 12 rfl ?_; go_simp
 refine Hn ?_
 have HF := Hi (HB.out.trans (hHeld4.2.mono HB.out.size))
 clear hHeld4
 go_wp2_with fail
 go_ret
 exact ⟨ret_bool HLE.out, HF.out⟩
theorem elow_calls (z : Nat) (m : Value) (w : World) (h : IV w m z) (hz : z < 9223372036854775808) :
  Calls prog 264 #[.agg #[.bool false, m]] w fun e w' => e = .returned (.int .i64 z) ∧ Below w.heap.size w w' := by
 have q0 := Bk.new w 41 #[.bool false, m]
 have hB0 := (Below.refl w.heap.size w).alloc (Nat.le_refl _) (.cells #[.bool false, m] 41)
 have HL := Hi (fun W (hb : Below w.heap.size w W) => Low_calls z m W (h.kept hb) hz)
 obtain ⟨A, n, c, rfl⟩ := h.slice
 have HB := Lib.hid hB0
 clear h hB0 hz
 go_enter func264, ntmps264
 go_wp2_with fail
 refine (HL.out _ HB.out).mono ?_
 rintro e w1 ⟨rfl, hB⟩
 go_wp2_with fail
 go_ret
 exact ⟨rfl, HB.out.trans (hB.mono HB.out.size)⟩
theorem fcurveV_calls (g p a b : Nat) (m0 m1 m2 : Value) (cap : Nat) (w : World) (h : Ints3 w g p a b m0 m1 m2 cap) (ok : Bool) (hp : p ≤ 4096) (ha : a ≤ 4096) (hb : b ≤ 4096) (hV : ∀ W, Calls prog 95 #[cv p a b] W fun e w' => e = .returned (.bool ok) ∧ Below W.heap.size W w') :
  Calls prog 244 #[.slice (some ⟨g, 0, none⟩) 3 cap] w fun e w' => e = .returned (.tuple #[cv p a b, .bool ok]) ∧ Below w.heap.size w w' := by
 obtain ⟨⟨cur, qg, e0, e1, e2, e3, e4, e5⟩, hcap, n0, n1, n2⟩ := h
 have HW0 := Hi (fun W (hb : Below w.heap.size w W) => within_calls p 0 4096 m0 W (n0.kept hb) (by omega) (by omega) (by omega) (by omega))
 have HW1 := Hi (fun W (hb : Below w.heap.size w W) => within_calls a 0 4096 m1 W (n1.kept hb) (by omega) (by omega) (by omega) (by omega))
 have HW2 := Hi (fun W (hb : Below w.heap.size w W) => within_calls b 0 4096 m2 W (n2.kept hb) (by omega) (by omega) (by omega) (by omega))
 have HL0 := Hi (fun W (hb : Below w.heap.size w W) => elow_calls p m0 W ((n0.kept hb).iv (by omega)) (by omega))
 have HL1 := Hi (fun W (hb : Below w.heap.size w W) => elow_calls a m1 W ((n1.kept hb).iv (by omega)) (by omega))
 have HL2 := Hi (fun W (hb : Below w.heap.size w W) => elow_calls b m2 W ((n2.kept hb).iv (by omega)) (by omega))
 have HV := Lib.hid hV
 have d0 : decide (p ≤ 4096) = true := by simp; omega
 have d1 : decide (a ≤ 4096) = true := by simp; omega
 have d2 : decide (b ≤ 4096) = true := by simp; omega
 rw [d0] at HW0
 rw [d1] at HW1
 rw [d2] at HW2
 obtain ⟨A0, c0, rfl⟩ := n0.slice
 obtain ⟨A1, c1, rfl⟩ := n1.slice
 obtain ⟨A2, c2, rfl⟩ := n2.slice
 generalize (wordsOf p).length = k0 at *
 generalize (wordsOf a).length = k1 at *
 generalize (wordsOf b).length = k2 at *
 have HG := Hi (And.intro qg (And.intro e0 (And.intro e1 (And.intro e2 (And.intro e3 (And.intro e4 e5))))))
 have hgl := qg.lt
 clear n0 n1 n2 d0 d1 d2 qg e0 e1 e2 e3 e4 e5 hp ha hb hV
 have q0 := Bk.new w 71 #[.int .i64 0, .int .i64 0, .int .i64 0]
 have hB0 := (Below.refl w.heap.size w).alloc (Nat.le_refl _) (.cells #[.int .i64 0, .int .i64 0, .int .i64 0] 71)
 have HS := Hi (And.intro q0 hB0)
 clear q0 hB0
 go_enter func244, ntmps244
 go_wp2_with fail
 go_loopw [9] (fun i wr => ∃ k : Nat, k ≤ 3 ∧ i = .int .i64 k ∧ Hid (Bk wr w.heap.size 71 #[.int .i64 0, .int .i64 0, .int .i64 0] ∧ Below w.heap.size w wr)) (fun i _ => 3 - (intOf i).toNat)
 case atStart => exact ⟨0, by omega, rfl, HS⟩
 case round =>
  obtain ⟨k, hk, rfl, HR⟩ := hrel
  have hqg := HG.out.1.kept HR.out.2
  have hgl := hqg.lt
  obtain ⟨_, e0, e1, e2, e3, e4, e5⟩ := HG.out
  rw [← hqg.cell] at e0 e1 e2 e3 e4 e5
  clear hqg
  by_cases h3 : k = 3
  ·subst h3
   go_upto_region 7 with (fail)
   have HB := Lib.hid HR.out.2
   generalize hWW : wr = W at *
   clear hWW
   have HF := Hi (show ∀ (wx : World) (bn : Nat), W.heap.size ≤ bn → Below W.heap.size W wx → Bk wx bn 71 #[.int .i64 p, .int .i64 a, .int .i64 b] → Bk wx bn 71 #[.int .i64 p, .int .i64 a, .int .i64 b] ∧ w.heap.size < bn ∧ Bk wx w.heap.size 71 #[.int .i64 0, .int .i64 0, .int .i64 0] ∧ Below w.heap.size w wx from fun wx bn h1 h2 h3 => ⟨h3, Nat.lt_of_lt_of_le HR.out.1.lt h1, HR.out.1.kept h2, HB.out.trans (h2.mono HB.out.size)⟩)
   go_cut [6] from 18 to 31 (fun s wx => ∃ bn, s = .pointer (some ⟨bn, 0, none⟩) ∧ Bk wx bn 71 #[.int .i64 p, .int .i64 a, .int .i64 b] ∧ w.heap.size < bn ∧ Bk wx w.heap.size 71 #[.int .i64 0, .int .i64 0, .int .i64 0] ∧ Below w.heap.size w wx)
   case first =>
    refine rgS W (fun hN => ?_)
    refine tkH 0 rfl ?_; go_simp
    refine tkH 1 rfl ?_; go_simp
    refine tkH 2 rfl ?_; go_simp
    refine tkH 4 rfl ?_; go_simp
    refine tkH 5 rfl ?_; go_simp
    refine tkH 6 rfl ?_; go_simp
    refine tkH 8 rfl ?_; go_simp
    refine tkH 9 rfl ?_; go_simp
    refine tkH 10 rfl ?_; go_simp
    generalize hwd : W.drew = wd at *
    clear hwd e0 e1 e2 e3 e4 e5
    refine rdy [3, 13] ?_
    refine Hb rfl (fun K hK => ?_) ?_
    focus
     go_simp
     refine (HL0.out _ (HB.out.trans (hN.2.mono HB.out.size))).mono ?_
     rintro e w1 ⟨rfl, hbb⟩
     refine hK.out _ _ (sk_step hN hbb) (fun hN => ?_)
     clear hK K
     clear hbb
     go_simp
     refine rdy [7, 13] ?_
     refine Hb rfl (fun K hK => ?_) ?_
     focus
      go_simp
      refine (HL1.out _ (HB.out.trans (hN.2.mono HB.out.size))).mono ?_
      rintro e w2 ⟨rfl, hbb⟩
      refine hK.out _ _ (sk_step hN hbb) (fun hN => ?_)
      clear hK K
      clear hbb
      go_simp
      refine rdy [11, 13] ?_
      refine Hb rfl (fun K hK => ?_) ?_
      focus
       go_simp
       refine (HL2.out _ (HB.out.trans (hN.2.mono HB.out.size))).mono ?_
       rintro e w3 ⟨rfl, hbb⟩
       refine hK.out _ _ (sk_step hN hbb) (fun hN => ?_)
       clear hK K
       clear hbb
       go_simp
       refine tkH 12 rfl ?_; go_simp
       refine rdH 13 rfl (fun K hK => ?_)
       have hbb := (Below.refl (w3).heap.size w3).alloc (Nat.le_refl _) (.cells #[.int .i64 0, .int .i64 0, .int .i64 0] 71)
       have qn := Bk.new w3 71 #[.int .i64 0, .int .i64 0, .int .i64 0]
       have hbn : W.heap.size ≤ (w3).heap.size := hN.2.size
       go_simp
       refine hK.out _ _ (sk_step hN hbb) (fun hN => ?_)
       clear hK K hbb
       go_simp
       generalize hgw : (w3).alloc _ = wn at *
       generalize hgs : (w3).heap.size = bn at *
       clear hgw hgs
       have y0 := qn.cell 0
       have y1 := qn.cell 1
       have y2 := qn.cell 2
       have f0 := qn.frozen 0
       have f1 := qn.frozen 1
       have f2 := qn.frozen 2
       have yl := qn.lt
       have hX := ((hN.2.setCell (p := ⟨bn, 0, none⟩) hbn (.int .i64 p)).setCell (p := ⟨bn, 1, none⟩) hbn (.int .i64 a)).setCell (p := ⟨bn, 2, none⟩) hbn (.int .i64 b)
       have hQ := ((qn.put 0 (.int .i64 p)).put 1 (.int .i64 a)).put 2 (.int .i64 b)
       refine rdH 14 rfl (fun K hK => ?_)
       go_simp
       refine hK.out _ _ ⟨(bcell hX).1, hX⟩ (fun hN => ?_)
       clear hK K
       go_simp
       refine Hn ?_
       go_wp2_with fail
       go_meet
       exact ⟨bn, rfl, HF.out _ _ hbn hX hQ⟩
      refine Ha rfl (fun K hK => ?_)
      have hbb := (Below.refl (w2).heap.size w2).alloc (Nat.le_refl _) (.cells #[.int .i64 0, .int .i64 0, .int .i64 0] 71)
      have qn := Bk.new w2 71 #[.int .i64 0, .int .i64 0, .int .i64 0]
      have hbn : W.heap.size ≤ (w2).heap.size := hN.2.size
      go_simp
      refine hK.out _ _ (sk_step hN hbb) (fun hN => ?_)
      clear hK K hbb
      go_simp
      generalize hgw : (w2).alloc _ = wn at *
      generalize hgs : (w2).heap.size = bn at *
      clear hgw hgs
      refine rdH 11 rfl (fun K hK => ?_)
      go_simp
      refine (HL2.out _ (HB.out.trans (hN.2.mono HB.out.size))).mono ?_
      rintro e w3 ⟨rfl, hbb⟩
      refine hK.out _ _ (sk_step hN hbb) (fun hN => ?_)
      clear hK K
      have qn := qn.kept hbb
      clear hbb
      go_simp
      refine tkH 12 rfl ?_; go_simp
      have y0 := qn.cell 0
      have y1 := qn.cell 1
      have y2 := qn.cell 2
      have f0 := qn.frozen 0
      have f1 := qn.frozen 1
      have f2 := qn.frozen 2
      have yl := qn.lt
      have hX := ((hN.2.setCell (p := ⟨bn, 0, none⟩) hbn (.int .i64 p)).setCell (p := ⟨bn, 1, none⟩) hbn (.int .i64 a)).setCell (p := ⟨bn, 2, none⟩) hbn (.int .i64 b)
      have hQ := ((qn.put 0 (.int .i64 p)).put 1 (.int .i64 a)).put 2 (.int .i64 b)
      refine rdH 14 rfl (fun K hK => ?_)
      go_simp
      refine hK.out _ _ ⟨(bcell hX).1, hX⟩ (fun hN => ?_)
      clear hK K
      go_simp
      refine Hn ?_
      go_wp2_with fail
      go_meet
      exact ⟨bn, rfl, HF.out _ _ hbn hX hQ⟩
     refine Ha rfl (fun K hK => ?_)
     have hbb := (Below.refl (w1).heap.size w1).alloc (Nat.le_refl _) (.cells #[.int .i64 0, .int .i64 0, .int .i64 0] 71)
     have qn := Bk.new w1 71 #[.int .i64 0, .int .i64 0, .int .i64 0]
     have hbn : W.heap.size ≤ (w1).heap.size := hN.2.size
     go_simp
     refine hK.out _ _ (sk_step hN hbb) (fun hN => ?_)
     clear hK K hbb
     go_simp
     generalize hgw : (w1).alloc _ = wn at *
     generalize hgs : (w1).heap.size = bn at *
     clear hgw hgs
     refine rdH 7 rfl (fun K hK => ?_)
     go_simp
     refine (HL1.out _ (HB.out.trans (hN.2.mono HB.out.size))).mono ?_
     rintro e w2 ⟨rfl, hbb⟩
     refine hK.out _ _ (sk_step hN hbb) (fun hN => ?_)
     clear hK K
     have qn := qn.kept hbb
     clear hbb
     go_simp
     refine rdH 11 rfl (fun K hK => ?_)
     go_simp
     refine (HL2.out _ (HB.out.trans (hN.2.mono HB.out.size))).mono ?_
     rintro e w3 ⟨rfl, hbb⟩
     refine hK.out _ _ (sk_step hN hbb) (fun hN => ?_)
     clear hK K
     have qn := qn.kept hbb
     clear hbb
     go_simp
     refine tkH 12 rfl ?_; go_simp
     have y0 := qn.cell 0
     have y1 := qn.cell 1
     have y2 := qn.cell 2
     have f0 := qn.frozen 0
     have f1 := qn.frozen 1
     have f2 := qn.frozen 2
     have yl := qn.lt
     have hX := ((hN.2.setCell (p := ⟨bn, 0, none⟩) hbn (.int .i64 p)).setCell (p := ⟨bn, 1, none⟩) hbn (.int .i64 a)).setCell (p := ⟨bn, 2, none⟩) hbn (.int .i64 b)
     have hQ := ((qn.put 0 (.int .i64 p)).put 1 (.int .i64 a)).put 2 (.int .i64 b)
     refine rdH 14 rfl (fun K hK => ?_)
     go_simp
     refine hK.out _ _ ⟨(bcell hX).1, hX⟩ (fun hN => ?_)
     clear hK K
     go_simp
     refine Hn ?_
     go_wp2_with fail
     go_meet
     exact ⟨bn, rfl, HF.out _ _ hbn hX hQ⟩
    refine Ha rfl (fun K hK => ?_)
    have hbb := (Below.refl (wd).heap.size wd).alloc (Nat.le_refl _) (.cells #[.int .i64 0, .int .i64 0, .int .i64 0] 71)
    have qn := Bk.new wd 71 #[.int .i64 0, .int .i64 0, .int .i64 0]
    have hbn : W.heap.size ≤ (wd).heap.size := hN.2.size
    go_simp
    refine hK.out _ _ (sk_step hN hbb) (fun hN => ?_)
    clear hK K hbb
    go_simp
    generalize hgw : (wd).alloc _ = wn at *
    generalize hgs : (wd).heap.size = bn at *
    clear hgw hgs
    refine rdH 3 rfl (fun K hK => ?_)
    go_simp
    refine (HL0.out _ (HB.out.trans (hN.2.mono HB.out.size))).mono ?_
    rintro e w1 ⟨rfl, hbb⟩
    refine hK.out _ _ (sk_step hN hbb) (fun hN => ?_)
    clear hK K
    have qn := qn.kept hbb
    clear hbb
    go_simp
    refine rdH 7 rfl (fun K hK => ?_)
    go_simp
    refine (HL1.out _ (HB.out.trans (hN.2.mono HB.out.size))).mono ?_
    rintro e w2 ⟨rfl, hbb⟩
    refine hK.out _ _ (sk_step hN hbb) (fun hN => ?_)
    clear hK K
    have qn := qn.kept hbb
    clear hbb
    go_simp
    refine rdH 11 rfl (fun K hK => ?_)
    go_simp
    refine (HL2.out _ (HB.out.trans (hN.2.mono HB.out.size))).mono ?_
    rintro e w3 ⟨rfl, hbb⟩
    refine hK.out _ _ (sk_step hN hbb) (fun hN => ?_)
    clear hK K
    have qn := qn.kept hbb
    clear hbb
    go_simp
    refine tkH 12 rfl ?_; go_simp
    have y0 := qn.cell 0
    have y1 := qn.cell 1
    have y2 := qn.cell 2
    have f0 := qn.frozen 0
    have f1 := qn.frozen 1
    have f2 := qn.frozen 2
    have yl := qn.lt
    have hX := ((hN.2.setCell (p := ⟨bn, 0, none⟩) hbn (.int .i64 p)).setCell (p := ⟨bn, 1, none⟩) hbn (.int .i64 a)).setCell (p := ⟨bn, 2, none⟩) hbn (.int .i64 b)
    have hQ := ((qn.put 0 (.int .i64 p)).put 1 (.int .i64 a)).put 2 (.int .i64 b)
    refine rdH 14 rfl (fun K hK => ?_)
    go_simp
    refine hK.out _ _ ⟨(bcell hX).1, hX⟩ (fun hN => ?_)
    clear hK K
    go_simp
    refine Hn ?_
    go_wp2_with fail
    go_meet
    exact ⟨bn, rfl, HF.out _ _ hbn hX hQ⟩
   case rest =>
    obtain ⟨bn, rfl, hq, hlt, h0, hB⟩ := hcut
    obtain ⟨y0, y1, y2, _, _, _⟩ := hq.six
    obtain ⟨r0, r1, r2, _, _, _⟩ := h0.six
    have yl := hq.lt
    have zl := h0.lt
    generalize wc = wx at *
    have HQ := Hi (And.intro h0 hB)
    clear h0 hB hq
    go_upto_region 8 with (fail)
    refine wp_region_held_drew (S := (fun w' => ∀ o, w'.cell? ⟨bn, o, none⟩ = wx.cell? ⟨bn, o, none⟩)) (by kernel_rfl) (fun _ => rfl) (fun hN => ?_)
    refine tkH 0 rfl ?_; go_simp
    refine tkH 1 rfl ?_; go_simp
    refine rdH 2 rfl (fun K hK => ?_)
    go_simp
    refine (HV.out _).mono ?_
    rintro e w5 ⟨rfl, hbb⟩
    have hb5 : Below wx.heap.size wx w5 := ((Below.refl wx.heap.size wx).drew).trans hbb
    refine hK.out _ _ (fun o => (bcell hb5).1 bn o yl) (fun hHeld5 => ?_)
    clear hK K hbb
    go_simp
    have q5 := HQ.out.1.kept hb5
    obtain ⟨x0, x1, x2, f0, f1, f2⟩ := q5.six
    have xl := q5.lt
    have HX := Hi (And.intro (((q5.put 0 (.int .i64 p)).put 1 (.int .i64 a)).put 2 (.int .i64 b)) ((((HQ.out.2.trans (hb5.mono HQ.out.2.size)).setCell (p := ⟨w.heap.size, 0, none⟩) (Nat.le_refl _) (.int .i64 p)).setCell (p := ⟨w.heap.size, 1, none⟩) (Nat.le_refl _) (.int .i64 a)).setCell (p := ⟨w.heap.size, 2, none⟩) (Nat.le_refl _) (.int .i64 b)))
    have HK := Hi (show ∀ o, (((w5.setCell ⟨w.heap.size, 0, none⟩ (.int .i64 p)).setCell ⟨w.heap.size, 1, none⟩ (.int .i64 a)).setCell ⟨w.heap.size, 2, none⟩ (.int .i64 b)).cell? ⟨bn, o, none⟩ = wx.cell? ⟨bn, o, none⟩ from fun o => by
     have h1 := (bcell hb5).1 bn o yl
     have h2 : (((w5.setCell ⟨w.heap.size, 0, none⟩ (.int .i64 p)).setCell ⟨w.heap.size, 1, none⟩ (.int .i64 a)).setCell ⟨w.heap.size, 2, none⟩ (.int .i64 b)).heap[bn]? = w5.heap[bn]? := (Below.heap_setCell _ _ _ _ (by simp; omega)).trans ((Below.heap_setCell _ _ _ _ (by simp; omega)).trans (Below.heap_setCell _ _ _ _ (by simp; omega)))
     rw [← h1]
     unfold World.cell?
     rw [show (((w5.setCell ⟨w.heap.size, 0, none⟩ (.int .i64 p)).setCell ⟨w.heap.size, 1, none⟩ (.int .i64 a)).setCell ⟨w.heap.size, 2, none⟩ (.int .i64 b)).heap[(⟨bn, o, none⟩ : Addr).block]? = w5.heap[(⟨bn, o, none⟩ : Addr).block]? from h2])
    clear q5 hN hb5
    refine rdH 3 rfl (fun K hK => ?_)
    go_simp
    refine hK.out _ _ HK.out (fun hHeld6 => ?_)
    clear hK K
    go_simp
    refine tkH 4 rfl ?_; go_simp
    refine Hn ?_
    have z0 := HX.out.1.cell 0
    have z1 := HX.out.1.cell 1
    have z2 := HX.out.1.cell 2
    have HF2 := Lib.hid HX.out.2
    clear hHeld6 HK
    go_wp2_with fail
    exact bodyPost_ret (v := .tuple #[cv p a b, .bool ok]) (by simp [results, results244, go_sem, z0, z1, z2]) rfl ⟨rfl, HF2.out⟩
  ·have HB := Lib.hid HR.out.2
   have HQ := Lib.hid HR.out.1
   rcases (show k = 0 ∨ k = 1 ∨ k = 2 by omega) with rfl | rfl | rfl
   ·have hal := HB.out.trans (((Below.refl wr.heap.size wr).alloc (Nat.le_refl _) (.cells #[.bool false, .slice A0 k0 c0] 41)).mono HB.out.size)
    have HA := Hi (And.intro hal (HQ.out.alloc (.cells #[.bool false, .slice A0 k0 c0] 41)))
    clear hal
    go_wp2_with fail
    refine (HW0.out _ HA.out.1).mono ?_
    rintro e w1 ⟨rfl, hB1⟩
    go_wp2_with fail
    go_roundw
    case rel => exact ⟨1, by omega, rfl, Lib.hid ⟨HA.out.2.kept hB1, HA.out.1.trans (hB1.mono HA.out.1.size)⟩⟩
    case measure => simp [intOf]
   ·have hal := HB.out.trans (((Below.refl wr.heap.size wr).alloc (Nat.le_refl _) (.cells #[.bool false, .slice A1 k1 c1] 41)).mono HB.out.size)
    have HA := Hi (And.intro hal (HQ.out.alloc (.cells #[.bool false, .slice A1 k1 c1] 41)))
    clear hal
    go_wp2_with fail
    refine (HW1.out _ HA.out.1).mono ?_
    rintro e w1 ⟨rfl, hB1⟩
    go_wp2_with fail
    go_roundw
    case rel => exact ⟨2, by omega, rfl, Lib.hid ⟨HA.out.2.kept hB1, HA.out.1.trans (hB1.mono HA.out.1.size)⟩⟩
    case measure => simp [intOf]
   ·have hal := HB.out.trans (((Below.refl wr.heap.size wr).alloc (Nat.le_refl _) (.cells #[.bool false, .slice A2 k2 c2] 41)).mono HB.out.size)
    have HA := Hi (And.intro hal (HQ.out.alloc (.cells #[.bool false, .slice A2 k2 c2] 41)))
    clear hal
    go_wp2_with fail
    refine (HW2.out _ HA.out.1).mono ?_
    rintro e w1 ⟨rfl, hB1⟩
    go_wp2_with fail
    go_roundw
    case rel => exact ⟨3, by omega, rfl, Lib.hid ⟨HA.out.2.kept hB1, HA.out.1.trans (hB1.mono HA.out.1.size)⟩⟩
    case measure => simp [intOf]
theorem curves1V_calls (g p a b : Nat) (m0 m1 m2 : Value) (cap : Nat) (w : World) (h : Ints3 w g p a b m0 m1 m2 cap) (ok : Bool) (hp : p ≤ 4096) (ha : a ≤ 4096) (hb : b ≤ 4096) (hV : ∀ W, Calls prog 95 #[cv p a b] W fun e w' => e = .returned (.bool ok) ∧ Below W.heap.size W w') :
  Calls prog 243 #[.slice (some ⟨g, 0, none⟩) 3 cap] w fun e w' => e = .returned (.bool ok) ∧ Below w.heap.size w w' := by
 have HI := Hi (fun W (hB : Below w.heap.size w W) => fcurveV_calls g p a b m0 m1 m2 cap W (h.kept hB) ok hp ha hb hV)
 go_enter func243, ntmps243
 go_wp2_with fail
 refine (HI.out _ (Below.refl _ _)).mono ?_
 rintro e w1 ⟨rfl, hB⟩
 go_wp2_with fail
 go_ret
 exact ⟨rfl, hB.alloc hB.size _⟩
set_option maxRecDepth 100000
set_option maxHeartbeats 4000000
def pieces (c : UInt8) : List UInt8 → List (List UInt8)
 | [] => [[]]
 | x :: l => if x = c then [] :: pieces c l else match pieces c l with
  | [] => [[x]]
  | p :: ps => (x :: p) :: ps
theorem pieces_ne (c : UInt8) : ∀ l, pieces c l ≠ []
 | [] => by simp [pieces]
 | x :: l => by
  simp only [pieces]
  split
  ·simp
  ·split <;> simp
theorem pieces_none (c : UInt8) : ∀ l, Lib.indexByte l c = -1 → pieces c l = [l]
 | [], _ => rfl
 | x :: l, h => by
  simp only [Lib.indexByte] at h
  have hge := Lib.indexByte_ge l c
  by_cases hx : x = c
  ·subst hx; simp at h
  ·rw [if_neg (by simpa using hx)] at h
   have hl : Lib.indexByte l c = -1 := by
    by_cases e : Lib.indexByte l c = -1
    ·exact e
    ·rw [if_neg (by simpa using e)] at h; omega
   simp only [pieces, if_neg hx, pieces_none c l hl]
theorem pieces_some (c : UInt8) : ∀ (l : List UInt8) (i : Nat), Lib.indexByte l c = i → i < l.length ∧ pieces c l = l.take i :: pieces c (l.drop (i + 1))
 | [], i, h => by simp [Lib.indexByte] at h
 | x :: l, i, h => by
  simp only [Lib.indexByte] at h
  have hge := Lib.indexByte_ge l c
  by_cases hx : x = c
  ·subst hx
   simp at h
   obtain rfl : i = 0 := by omega
   simp [pieces]
  ·rw [if_neg (by simpa using hx)] at h
   by_cases e : Lib.indexByte l c = -1
   ·rw [if_pos (by simpa using e)] at h; omega
   ·rw [if_neg (by simpa using e)] at h
    obtain ⟨j, rfl⟩ : ∃ j, i = j + 1 := ⟨i - 1, by omega⟩
    obtain ⟨h1, h2⟩ := pieces_some c l j (by omega)
    refine ⟨by simp; omega, ?_⟩
    simp only [pieces, if_neg hx, h2, List.take_succ_cons, List.drop_succ_cons]
theorem ba_take (r : List UInt8) (i : Nat) : (ByteArray.mk r.toArray).extract 0 i = ⟨(r.take i).toArray⟩ := by
 apply ByteArray.ext
 simp [ByteArray.data_extract]
theorem ba_drop (r : List UInt8) (i : Nat) : (ByteArray.mk r.toArray).extract i r.length = ⟨(r.drop i).toArray⟩ := by
 apply ByteArray.ext
 simp [ByteArray.data_extract, List.take_of_length_le]
def strLen : Option Value → Nat
 | some (.string s) => s.size
 | _ => 0
def Kp3 (b1 b2 b3 : Nat) (W W' : World) : Prop := W'.heap[b1]? = W.heap[b1]? ∧ W'.heap[b2]? = W.heap[b2]? ∧ W'.heap[b3]? = W.heap[b3]?
theorem Kp3.refl (b1 b2 b3 : Nat) (W : World) : Kp3 b1 b2 b3 W W := ⟨rfl, rfl, rfl⟩
theorem Kp3.trans {b1 b2 b3 : Nat} {X Y Z : World} (h : Kp3 b1 b2 b3 X Y) (k : Kp3 b1 b2 b3 Y Z) : Kp3 b1 b2 b3 X Z := ⟨k.1.trans h.1, k.2.1.trans h.2.1, k.2.2.trans h.2.2⟩
theorem Kp3.putObj {b1 b2 b3 l : Nat} {W : World} (o : Obj) (h1 : b1 < l) (h2 : b2 < l) (h3 : b3 < l) : Kp3 b1 b2 b3 W (W.putObj l o) :=
 ⟨World.putObj_heap_other (by omega), World.putObj_heap_other (by omega), World.putObj_heap_other (by omega)⟩
def SeqPostY (J Jx : List (List UInt8) → World → Prop) (L : List (List UInt8)) (e : Ending) (W' : World) : Prop := (∃ v, e = .returned v) ∧ (J L W' ∨ ∃ pre, pre <+: L ∧ Jx pre W')
def SeqY (n gf : Nat) (lb : Array Value) (b1 b2 b3 : Nat) (L : List (List UInt8)) (w : World) : Prop :=
 ∀ (l : Nat) (J Jx : List (List UInt8) → World → Prop) (W : World), Below w.heap.size w W → OwnFrom W.heap.size J → (∀ pre X v, J pre X → J pre (X.setCell ⟨b2, 0, none⟩ v)) →
  (∀ pre x W1, J pre W1 → pre ++ [x] <+: L → YieldAt Fence.wide (n - 1) prog l #[st x] W1 fun e W' =>
   (e = .returned (.bool true) ∧ J (pre ++ [x]) W' ∧ Kp3 b1 b2 b3 W1 W') ∨ (e = .returned (.bool false) ∧ Jx (pre ++ [x]) W')) →
  J [] W → CallsIn Fence.wide n prog gf (#[.func (.yield l) #[] #[]] ++ lb) W (SeqPostY J Jx L)
theorem gkeepY {B k : Nat} {X Y : World} {row : Option Nat} {o : Obj} (hg : X.grownBy Y row) (hr : ∀ r, row = some r → B ≤ r ∧ ∃ o : Obj, X.heap[r]? = some o ∧ o.isCells = false) (h : X.heap[k]? = some o) (hk : k < B) : Y.heap[k]? = X.heap[k]? :=
 hg.block k (Array.getElem?_eq_some_iff.1 h).1 (fun e => by have := (hr k e.symm).1; omega)
def postY (B b1 b2 b3 : Nat) (I Ix : List (List UInt8) → World → Prop) (xs : List (List UInt8)) (W : World) : Exit → Act → World → Prop
 | .normal, _, W' => KeepsFrom B W W' ∧ Kp3 b1 b2 b3 W W' ∧ I xs W'
 | .ret, _, W' => KeepsFrom B W W' ∧ Ix xs W'
 | _, _, _ => False
theorem rangeY {n : Nat} {g : Operand} {ps : Array Tmp} {assign body : Code} {Q : Exit → Act → World → Prop} {a : Act} {w : World} {gf : Nat} {lb : Array Value} (hg : a.eval g = .func (.func gf) #[] lb)
  (eg : ∀ args w, (callFunc gf args).run prog w = .ok (.enter gf args) w) {b1 b2 b3 : Nat} (hb1l : b1 < w.heap.size) (hb2l : b2 < w.heap.size) (hb3l : b3 < w.heap.size) {L : List (List UInt8)} (hseq : SeqY (n - 1) gf lb b1 b2 b3 L w) (hps : ps.size = 1)
  (I Ix : List (List UInt8) → World → Prop) (hI : OwnFrom w.heap.size I) (hIx : OwnFrom w.heap.size Ix) (hIs : ∀ pre X v, I pre X → I pre (X.setCell ⟨b2, 0, none⟩ v)) (h0 : I [] w) (a1 : List UInt8 → Act)
  (hassign : ∀ (l : Nat) (x : List UInt8) (W : World) (K : Act → World → Prop), K (a1 x) W → assign.wpIn (Fence.wide.inRound l) (n - 1 - 1) prog (Exit.then K (fun _ _ _ => False)) { tmps := (ps.zip #[st x]).foldl (fun t (p, v) => t.setIfInBounds p v) a.tmps, defers := [] } W)
  (hbody : ∀ (l : Nat) (pre : List (List UInt8)) (x : List UInt8) (W : World), I pre W → pre ++ [x] <+: L → w.heap.size ≤ W.heap.size → body.wpIn (Fence.wide.inRound l) (n - 1 - 1) prog (postY w.heap.size b1 b2 b3 I Ix (pre ++ [x]) W) (a1 x) W)
  (hdone : ∀ (D : Nat) (W : World), w.heap.size ≤ D → I L W → W.heap[D]? = some (.deferred (some [])) → Q .normal { a with defers := { target := .collected D, args := #[] } :: a.defers } W)
  (hstop : ∀ (D : Nat) (pre : List (List UInt8)) (W : World), w.heap.size ≤ D → pre <+: L → Ix pre W → W.heap[D]? = some (.deferred (some [])) → Code.ret.wpIn Fence.wide n prog Q { a with defers := { target := .collected D, args := #[] } :: a.defers } W) :
  (Code.rangeFunc g ps assign body).wpIn Fence.wide n prog Q a w := by
 refine wpIn_rangeFunc fun fn hfn => ?_
 let R (st : LoopState) (pe : Option Code) : Loop := { state := st, pending := pe, fn := fn, tmps := a.tmps, params := ps, assign := assign, body := body, defers := w.heap.size }
 generalize hW1 : (w.alloc (.deferred (some []))).alloc (.loop (R .ready none)) = W1
 have s1 : W1.heap.size = w.heap.size + 2 := by rw [← hW1]; simp
 have hrec : W1.heap[w.heap.size + 1]? = some (.loop (R .ready none)) := by
  rw [← hW1]; have := World.alloc_heap_new (w.alloc (.deferred (some []))) (.loop (R .ready none)); rwa [World.size_alloc] at this
 have hdef : W1.heap[w.heap.size]? = some (.deferred (some [])) := by
  rw [← hW1]; exact (Below.heap_alloc _ _ _ (by simp)).trans (World.alloc_heap_new w _)
 have hb1 : Below w.heap.size w W1 := by rw [← hW1]; exact ((Below.refl _ w).alloc (Nat.le_refl _) _).alloc (by simp) _
 refine ⟨w.heap.size + 1, [{ target := .collected w.heap.size, args := #[] }], W1, { target := .fn (.func gf) lb, args := #[.func (.yield (w.heap.size + 1)) #[] #[]] }, W1, gf,
  #[.func (.yield (w.heap.size + 1)) #[] #[]] ++ lb, W1, ?_, ?_, fun _ _ => trivial, ?_, fun h => (by cases h), ?_⟩
 ·rw [← hW1]; exact run_enterLoop_outer _ _ _ _ _
 ·simp only [resolve, hg]; simp [go_sem]
 ·simp [invoke, go_sem, eg]
 let T (st : LoopState) (pe : Option Code) (W : World) : Prop := W.heap[w.heap.size + 1]? = some (.loop (R st pe)) ∧ W.heap[w.heap.size]? = some (.deferred (some [])) ∧ w.heap.size + 2 ≤ W.heap.size
 have hT : ∀ {st pe} {X Y : World} {row : Option Nat}, T st pe X → X.grownBy Y row → (∀ r, row = some r → W1.heap.size ≤ r ∧ ∃ o : Obj, X.heap[r]? = some o ∧ o.isCells = false) → T st pe Y :=
  fun ht hg' hr => ⟨(gkeepY hg' hr ht.1 (by omega)).trans ht.1, (gkeepY hg' hr ht.2.1 (by omega)).trans ht.2.1, Nat.le_trans ht.2.2 hg'.size⟩
 have hTs : ∀ {st pe} {X : World} {v : Value}, T st pe X → T st pe (X.setCell ⟨b2, 0, none⟩ v) :=
  fun {st pe X v} ht => ⟨(Below.heap_setCell X ⟨b2, 0, none⟩ v _ (by simp; omega)).trans ht.1, (Below.heap_setCell X ⟨b2, 0, none⟩ v _ (by simp; omega)).trans ht.2.1, by simpa using ht.2.2⟩
 have hfar : ∀ {X : World} {row : Option Nat}, (∀ r, row = some r → W1.heap.size ≤ r ∧ ∃ o : Obj, X.heap[r]? = some o ∧ o.isCells = false) → ∀ r, row = some r → w.heap.size ≤ r ∧ ∃ o : Obj, X.heap[r]? = some o ∧ o.isCells = false :=
  fun hr r e => ⟨by have := (hr r e).1; omega, (hr r e).2⟩
 have put : ∀ {X : World} {o o' : Obj}, X.heap[w.heap.size + 1]? = some o → X.heap[w.heap.size]? = some (.deferred (some [])) → (X.putObj (w.heap.size + 1) o').heap[w.heap.size + 1]? = some o' ∧ (X.putObj (w.heap.size + 1) o').heap[w.heap.size]? = some (.deferred (some [])) :=
  fun h1 h2 => ⟨World.putObj_heap_same (Array.getElem?_eq_some_iff.1 h1).1, (World.putObj_heap_other (by omega)).trans h2⟩
 have psz : ∀ (X : World) (k : Nat) (o : Obj), (X.putObj k o).heap.size = X.heap.size := fun X k o => by simp [World.putObj]
 refine (hseq (w.heap.size + 1) (fun pre W => I pre W ∧ T .ready none W) (fun pre W => Ix pre W ∧ T .done (some .ret) W) W1 hb1
  (fun s X Y row hs hg' hr => ⟨hI s X Y row hs.1 hg' (hfar hr), hT hs.2 hg' hr⟩) (fun pre X v h => ⟨hIs pre X v h.1, hTs h.2⟩)
  ?_ ⟨by rw [← hW1]; exact hI.alloc _ (hI.alloc _ h0), hrec, hdef, by omega⟩).mono ?_
 ·rintro pre x W ⟨hi, hl, hk, hsz⟩ hlen
  refine ⟨fn, _, assign, body, run_yield hl (by exact hps.symm), roundIn_of_wpIn hfn (hassign _ x W _ ⟨_, run_beginRound hl rfl, ?_⟩)⟩
  obtain ⟨hl2, hk2⟩ := put (o' := .loop { R .ready none with state := .busy }) hl hk
  have hi2 := hI.putObj (.loop { R .ready none with state := .busy }) hi (by omega) hl rfl
  have kn2 : Kp3 b1 b2 b3 W (W.putObj (w.heap.size + 1) (.loop { R .ready none with state := .busy })) := Kp3.putObj _ (by omega) (by omega) (by omega)
  refine wpIn_mono (hbody _ pre x _ hi2 hlen (by rw [psz]; omega)) ?_
  rintro e a3 W3 hp
  cases e with
  | normal =>
   obtain ⟨hk3, hkn, hi3⟩ := hp
   have hl3 := hk3.same _ _ (by omega) hl2 rfl
   have hk3' := hk3.same _ _ (Nat.le_refl _) hk2 rfl
   have hz3 := hk3.size
   rw [psz] at hz3
   exact ⟨_, _, run_endRound none hl3, .inl ⟨rfl, ⟨hI.putObj _ hi3 (by omega) hl3 rfl, (put hl3 hk3').1, (put hl3 hk3').2, by rw [psz]; omega⟩, kn2.trans (hkn.trans (Kp3.putObj _ (by omega) (by omega) (by omega)))⟩⟩
  | ret =>
   obtain ⟨hk3, hi3⟩ := hp
   have hl3 := hk3.same _ _ (by omega) hl2 rfl
   have hk3' := hk3.same _ _ (Nat.le_refl _) hk2 rfl
   have hz3 := hk3.size
   rw [psz] at hz3
   exact ⟨_, _, run_endRound (some .ret) hl3, .inr ⟨rfl, ⟨hIx.putObj _ hi3 (by omega) hl3 rfl, (put hl3 hk3').1, (put hl3 hk3').2, by rw [psz]; omega⟩⟩⟩
  | exit id => exact hp.elim
  | goto t => exact hp.elim
  | panic c => exact hp.elim
  | outgrown => exact hp.elim
 ·rintro e W2 ⟨⟨v, rfl⟩, (⟨hi, hl, hk, _⟩ | ⟨pre, hpre, hi, hl, hk, _⟩)⟩
  ·exact ⟨none, _, run_endLoop hl (by simp [R]), hdone _ _ (Nat.le_refl _) (hI.putObj _ hi (by omega) hl rfl) (put hl hk).2⟩
  ·exact ⟨some .ret, _, run_endLoop hl (by simp [R]), hstop _ pre _ (Nat.le_refl _) hpre (hIx.putObj _ hi (by omega) hl rfl) (put hl hk).2⟩
section
attribute [local go_sem] Oper.semAt_some
theorem split1_seq (n b1 b2 b3 : Nat) (c : UInt8) (s : List UInt8) (hs : s.length ≤ 1000000) (w : World) (hne1 : b1 ≠ b2) (hne3 : b3 ≠ b2) (q1 : Bk w b1 9 #[st [c]]) (q2 : Bk w b2 9 #[st s]) (q3 : Bk w b3 3 #[.int .i64 0]) :
  SeqY n 266 #[.pointer (some ⟨b1, 0, none⟩), .pointer (some ⟨b2, 0, none⟩), .pointer (some ⟨b3, 0, none⟩)] b1 b2 b3 (pieces c s) w := by
 intro l J Jx W hW hJ hJs hY h0
 have q1 := q1.kept hW
 have q2 := q2.kept hW
 have q3 := q3.kept hW
 have HI := Hi (fun s W => Tryz.strings_Index_one ⟨s⟩ c W)
 refine callsIn_of_wp func266 rfl trivial ?_ rfl
 simp only [ntmps266, List.append_toArray, List.cons_append, List.nil_append, List.size_toArray, List.length_cons, List.length_nil, Nat.reduceAdd, Nat.reduceSub, Array.replicate_succ, Array.replicate_zero, List.push_toArray]
 have p1 := q1.cell 0
 have l1 := q1.lt
 have HY := Lib.hid hY
 have HJs := Lib.hid hJs
 clear hY hJs hJ hW
 gi_wp2_with fail
 gi_loopw [7] (fun u wr => ∃ (r : List UInt8) (pre : List (List UInt8)), r.length ≤ 1000000 ∧ Hid (J pre wr ∧ pieces c s = pre ++ pieces c r) ∧ Bk wr b1 9 #[st [c]] ∧ Bk wr b2 9 #[st r] ∧ Bk wr b3 3 #[.int .i64 0]) (fun _ wr => strLen (wr.cell? ⟨b2, 0, none⟩))
 case atStart => exact ⟨s, [], hs, Lib.hid ⟨h0, rfl⟩, q1, q2, q3⟩
 case round =>
  obtain ⟨r, pre, hr, HJ, q1, q2, q3⟩ := hrel
  have p1 := q1.cell 0
  have p2 := q2.cell 0
  have p3 := q3.cell 0
  have l1 := q1.lt
  have l2 := q2.lt
  have l3 := q3.lt
  have hge := Lib.indexByte_ge r c
  by_cases hi : Lib.indexByte r c = -1
  ·have HP := Hi (pieces_none c r hi)
   have HII := Hi (fun W => HI.out r.toArray W)
   gi_wp2_with fail
   refine atc ((HII.out _).mono ?_)
   rintro e w1 ⟨rfl, rfl⟩
   rw [hi]
   have hpre : pre ++ [r] <+: pieces c s := by rw [HJ.out.2, HP.out]; exact List.prefix_refl _
   obtain ⟨fn, tmps, assign, body, hy, hR⟩ := HY.out pre r w1 HJ.out.1 hpre
   have HE := Hi (show pre ++ [r] = pieces c s by rw [HJ.out.2, HP.out])
   clear hpre
   gi_wp2_with fail
   refine ⟨fun h => (by cases h), hR.mono ?_⟩
   rintro e W3 (⟨rfl, hJ3, _⟩ | ⟨rfl, hJx3⟩)
   ·gi_wp2_with fail
    go_end0
    exact ⟨⟨_, rfl⟩, .inl (by rw [← HE.out]; exact hJ3)⟩
   ·gi_wp2_with fail
    go_end0
    exact ⟨⟨_, rfl⟩, .inr ⟨_, by rw [← HE.out]; exact List.prefix_refl _, hJx3⟩⟩
  ·obtain ⟨i, hi⟩ : ∃ i : Nat, Lib.indexByte r c = i := ⟨(Lib.indexByte r c).toNat, by omega⟩
   obtain ⟨hil, hp⟩ := pieces_some c r i hi
   have HP := Lib.hid hp
   have HII := Hi (fun W => HI.out r.toArray W)
   clear hp
   gi_wp2_with fail
   refine atc ((HII.out _).mono ?_)
   rintro e w1 ⟨rfl, rfl⟩
   rw [hi]
   have hx1 : (ByteArray.mk r.toArray).extract 0 i = ⟨(r.take i).toArray⟩ := ba_take r i
   have hx2 : (ByteArray.mk r.toArray).extract (i + 1) r.length = ⟨(r.drop (i + 1)).toArray⟩ := ba_drop r (i + 1)
   have hpre : pre ++ [r.take i] <+: pieces c s := by rw [HJ.out.2, HP.out]; exact ⟨pieces c (r.drop (i + 1)), by simp⟩
   obtain ⟨fn, tmps, assign, body, hy, hR⟩ := HY.out pre (r.take i) w1 HJ.out.1 hpre
   have HE := Lib.hid hpre
   have HZ := Hi (show pieces c s = pre ++ [r.take i] ++ pieces c (r.drop (i + 1)) by rw [HJ.out.2, HP.out]; simp)
   clear hpre
   gi_wp2_with fail
   refine ⟨fun h => (by cases h), hR.mono ?_⟩
   have hm2 : strLen (w1.cell? ⟨b2, 0, none⟩) = r.length := by rw [p2]; simp [strLen, ByteArray.size]
   clear p1 p2 p3 l1 l2 l3
   rintro e W3 (⟨rfl, hJ3, hk⟩ | ⟨rfl, hJx3⟩)
   ·have q1 : Bk W3 b1 9 #[st [c]] := hk.1.trans q1
    have q2 : Bk W3 b2 9 #[st r] := hk.2.1.trans q2
    have q3 : Bk W3 b3 3 #[.int .i64 0] := hk.2.2.trans q3
    have p1 := q1.cell 0
    have p2 := q2.cell 0
    have f2 := q2.frozen 0
    have l1 := q1.lt
    have l2 := q2.lt
    gi_wp2_with fail
    refine ⟨⟨r.drop (i + 1), pre ++ [r.take i], by simp; omega, Lib.hid ⟨HJs.out _ _ _ hJ3, HZ.out⟩, q1.far _ hne1, q2.put 0 _, q3.far _ hne3⟩, ?_⟩
    rw [hm2, (q2.put 0 _).cell]
    simp [strLen, ByteArray.size]
    omega
   ·gi_wp2_with fail
    refine bodyPost_ret (results_none rfl _ _ _) rfl ?_
    exact ⟨⟨_, rfl⟩, .inr ⟨_, HE.out, hJx3⟩⟩
end
end Go.Proofs.YtpmklccphbklaaaGreatDoor
