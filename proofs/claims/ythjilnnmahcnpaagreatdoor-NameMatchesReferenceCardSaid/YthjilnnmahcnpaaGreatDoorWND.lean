/- The reference's product of numbers of any size. -/
import Derived.Test.YthjilnnmahcnpaaGreatDoorWNC
namespace Go.Proofs.YthjilnnmahcnpaaGreatDoor
open Go.RowKit Go.Shelf Go.Proofs.Tryz
set_option maxRecDepth 100000
set_option maxHeartbeats 8000000
theorem run_mkW (n : Nat) (hn : n ≤ 1000000) (w : World) : (Instr.makeSlice 22 (.int .i64 n) (.int .i64 n)).run prog w = .ok (.slice (some ⟨w.heap.size, 0, none⟩) n n) (w.alloc (.cells (wdA (List.replicate n 0)) 81)) := by
 obtain ⟨i, hi, hz0, hz1, hz2⟩ := info_parts T_w32.hi
 have := run_makeSlice (P := prog) w 22 81 i (.int .u32 0) T_w32.ht hi hz0 .i64 .i64 n n (by omega) (Int.le_refl _) (by rw [hz1]; omega) (by rw [hz2]; omega) (by omega)
 rw [this, hz1]
 have he : madeCells (Value.int .u32 0).cells n = wdA (List.replicate n 0) := by
  apply Array.ext_getElem?
  intro j
  simp only [madeCells, Value.cells, wdA, List.map_replicate, List.getElem?_toArray, Array.getElem?_map, List.getElem?_replicate]
  by_cases hj : j < n
  ·rw [if_pos hj, Array.getElem?_eq_getElem (by simpa using hj)]
   simp [Nat.mod_one]
  ·rw [if_neg hj, Array.getElem?_eq_none (by simpa using hj)]
   rfl
 simp only [Int.toNat_natCast, Nat.mul_one, he]
def MulW (w wr : World) (g : Nat) (s t : Bool) (v1 v2 : Value) (o : List Nat) : Prop :=
 Below w.heap.size w wr ∧ Bk wr g 81 (wdA o) ∧ Bk wr w.heap.size 42 #[.bool s, v1] ∧ Bk wr (w.heap.size + 1) 42 #[.bool t, v2] ∧ Bk wr (w.heap.size + 1 + 1) 42 #[.bool false, .slice none 0 0] ∧ w.heap.size ≤ g
theorem MulW.put {w wr : World} {g : Nat} {s t : Bool} {v1 v2 : Value} {o : List Nat} (h : MulW w wr g s t v1 v2 o) (k d : Nat) : MulW w (wr.setCell ⟨g, k, none⟩ (wd d)) g s t v1 v2 (o.set k d) := by
 obtain ⟨h1, h2, h3, h4, h5, h6⟩ := h
 refine ⟨h1.setCell h6 _, by rw [← wdA_set]; exact h2.put _ _, h3.far _ (h3.ne h2 (by decide)), h4.far _ (h4.ne h2 (by decide)), h5.far _ (h5.ne h2 (by decide)), h6⟩
theorem MulW.drewN {w wr : World} {g : Nat} {s t : Bool} {v1 v2 : Value} {o : List Nat} (h : MulW w wr g s t v1 v2 o) (q : Nat) : MulW w (wr.drewN q) g s t v1 v2 o :=
 ⟨below_dN h.1 q, h.2.1, h.2.2.1, h.2.2.2.1, h.2.2.2.2.1, h.2.2.2.2.2⟩
theorem RMul_calls (s : Bool) (x : Nat) (t : Bool) (y n1 n2 : Nat) (ma mb : Value) (w : World) (ha : IV w ma x) (hb : IV w mb y) (hx : x < 4294967296 ^ n1) (hy : y < 4294967296 ^ n2) (hn1 : n1 ≤ 400) (hn2 : n2 ≤ 400) :
  Calls prog 124 #[.agg #[.bool s, ma], .agg #[.bool t, mb]] w (RetS w ((s != t) && decide (0 < x * y)) (x * y)) := by
 obtain ⟨a, ca, ra⟩ := ha
 obtain ⟨b, cb, rb⟩ := hb
 have hal : a.length ≤ 400 := Nat.le_trans (ca.len hx) hn1
 have hbl : b.length ≤ 400 := Nat.le_trans (cb.len hy) hn2
 obtain ⟨A1, c1, rfl, hc1, f1⟩ := ra.at
 obtain ⟨A2, c2, rfl, hc2, f2⟩ := rb.at
 have HMk := Hi (fun sg ws v W hr hl hd => mkA_calls sg ws v W hr hl hd)
 have H1 := Lib.hid f1
 have H2 := Lib.hid f2
 have HA := Lib.hid ca.lt
 have HB := Lib.hid cb.lt
 have HV := Hi (And.intro ca.val cb.val)
 clear f1 f2 hc1 hc2 ca cb ra rb hx hy
 obtain ⟨la, hla⟩ : ∃ la, la = a.length := ⟨_, rfl⟩
 obtain ⟨lb, hlb⟩ : ∃ lb, lb = b.length := ⟨_, rfl⟩
 have HLA := Lib.hid hla
 have HLB := Lib.hid hlb
 rw [← hla] at hal ⊢
 rw [← hlb] at hbl ⊢
 clear hla hlb
 have hmk := fun W => run_mkW (la + lb) (by omega) W
 simp only [Int.natCast_add] at hmk
 have hB0 : Below w.heap.size w (((w.alloc (.cells #[.bool s, .slice A1 la c1] 42)).alloc (.cells #[.bool t, .slice A2 lb c2] 42)).alloc (.cells #[.bool false, .slice none 0 0] 42)) := (((Below.refl _ _).alloc (Nat.le_refl _) _).alloc (by simp) _).alloc (by simp; omega) _
 have q2 := ((Bk.new w 42 #[.bool s, .slice A1 la c1]).alloc (.cells #[.bool t, .slice A2 lb c2] 42)).alloc (.cells #[.bool false, .slice none 0 0] 42)
 have q3 := (Bk.new (w.alloc (.cells #[.bool s, .slice A1 la c1] 42)) 42 #[.bool t, .slice A2 lb c2]).alloc (.cells #[.bool false, .slice none 0 0] 42)
 have q4 := Bk.new ((w.alloc (.cells #[.bool s, .slice A1 la c1] 42)).alloc (.cells #[.bool t, .slice A2 lb c2] 42)) 42 #[.bool false, .slice none 0 0]
 simp only [World.size_alloc] at q3 q4
 go_enter func124, ntmps124
 go_upto_region 1 with (fail)
 generalize ((w.alloc _).alloc _).alloc _ = W at *
 have d0 := q2.cell 0
 have d1 := q2.cell 1
 have e0 := q3.cell 0
 have e1 := q3.cell 1
 have l2 := q2.lt
 have l3 := q3.lt
 have l4 := q4.lt
 have hs1 : IntKind.i64.wrap ((la : Int) + (lb : Int)) = (la : Int) + (lb : Int) := IntWalk.i64_in _ (by omega)
 have HS := Hi (show MulW w (W.alloc (.cells (wdA (List.replicate (la + lb) 0)) 81)) W.heap.size s t (.slice A1 la c1) (.slice A2 lb c2) (List.replicate (la + lb) 0) from
  ⟨hB0.alloc hB0.size _, Bk.new W _ _, q2.alloc _, q3.alloc _, q4.alloc _, hB0.size⟩)
 go_upto_region 2 with (fail)
 clear hmk d0 d1 e0 e1 q2 q3 q4 hB0
 generalize W.alloc _ = W0 at *
 generalize W.heap.size = g at *
 go_wp2_with fail
 go_loopw [6] (fun i wr => ∃ (k : Nat) (o : List Nat), i = .int .i64 k ∧ k ≤ la ∧ Hid (MulW w wr g s t (.slice A1 la c1) (.slice A2 lb c2) o ∧ MulAt a b o k)) (fun i _ => la - (intOf i).toNat)
 case atStart => exact ⟨0, _, rfl, by omega, Lib.hid ⟨HS.out, by rw [HLA.out, HLB.out]; exact MulAt.start a b⟩⟩
 case round =>
  obtain ⟨k, o, rfl, hk, HR⟩ := hrel
  have a0 := HR.out.1.2.2.1.cell 0
  have a1 := HR.out.1.2.2.1.cell 1
  have al := HR.out.1.2.2.1.lt
  have b0 := HR.out.1.2.2.2.1.cell 0
  have b1 := HR.out.1.2.2.2.1.cell 1
  have bl := HR.out.1.2.2.2.1.lt
  by_cases hlt : k < la
  ·obtain ⟨x, hx⟩ : ∃ x, a[k]? = some x := ⟨_, List.getElem?_eq_getElem (by have := HLA.out; omega)⟩
   have HX := Lib.hid hx
   have hxl : x < 4294967296 := HA.out _ (List.mem_of_getElem? hx)
   have hlt1 : decide ((k : Int) < (la : Int)) = true := by simp; omega
   clear hx
   go_wp2_with fail
   go_loopw [7, 8] (fun c i wr => ∃ (j : Nat) (o : List Nat) (c' : Nat), c = .int .u64 c' ∧ i = .int .i64 j ∧ j ≤ lb ∧ Hid (MulW w wr g s t (.slice A1 la c1) (.slice A2 lb c2) o ∧ MulIn a b o k j x c')) (fun _ i _ => lb - (intOf i).toNat)
   case atStart => exact ⟨0, o, 0, rfl, rfl, by omega, Lib.hid ⟨HR.out.1, HR.out.2.enter x⟩⟩
   case round =>
    obtain ⟨j, o, c', rfl, rfl, hj, HR⟩ := hrel
    clear a0 a1 al b0 b1 bl
    have a0 := HR.out.1.2.2.1.cell 0
    have a1 := HR.out.1.2.2.1.cell 1
    have al := HR.out.1.2.2.1.lt
    have b0 := HR.out.1.2.2.2.1.cell 0
    have b1 := HR.out.1.2.2.2.1.cell 1
    have bl := HR.out.1.2.2.2.1.lt
    by_cases hlt2 : j < lb
    ·obtain ⟨y, hy⟩ : ∃ y, b[j]? = some y := ⟨_, List.getElem?_eq_getElem (by have := HLB.out; omega)⟩
     obtain ⟨b1', o1, rfl, hl1, hd1⟩ := H1.out k _ HX.out
     have d1 := hd1 wr HR.out.1.1
     obtain ⟨b2, o2, rfl, hl2, hd2⟩ := H2.out j _ hy
     have d2 := hd2 wr HR.out.1.1
     have HY := Lib.hid hy
     have hyl : y < 4294967296 := HB.out _ (List.mem_of_getElem? hy)
     obtain ⟨old, ho⟩ : ∃ old, o[k + j]? = some old := ⟨_, List.getElem?_eq_getElem (by have := HR.out.2.len; have := HLA.out; have := HLB.out; omega)⟩
     have hoo : old < 4294967296 := HR.out.2.lt _ (List.mem_of_getElem? ho)
     have e0 := HR.out.1.2.1.cell (k + j)
     rw [wdA_get ho] at e0
     have ez := HR.out.1.2.1.frozen (k + j)
     have hcl := HR.out.2.c
     have HO := Lib.hid ho
     have qlt := HR.out.1.2.1.lt
     clear hy hd2 ho hd1
     have hxy : x * y ≤ 4294967295 * 4294967295 := Nat.mul_le_mul (by omega) (by omega)
     obtain ⟨sm, hsm⟩ : ∃ sm, sm = x * y + old + c' := ⟨_, rfl⟩
     have m1 : IntKind.u64.wrap ((x : Int) * (y : Int)) = (x : Int) * (y : Int) := by
      rw [← Int.natCast_mul]; exact IntWalk.u64_in _ (by omega)
     have m1' : ((x : Int) * (y : Int)) % 18446744073709551616 = (x : Int) * (y : Int) := by
      rw [← Int.natCast_mul]; omega
     have m2 : IntKind.u64.wrap ((x : Int) * (y : Int) + (old : Int)) = (x : Int) * (y : Int) + (old : Int) := by
      rw [← Int.natCast_mul]; exact IntWalk.u64_in _ (by omega)
     have m2' : ((x : Int) * (y : Int) + (old : Int)) % 18446744073709551616 = (x : Int) * (y : Int) + (old : Int) := by
      rw [← Int.natCast_mul]; omega
     have m3 : IntKind.u64.wrap ((c' : Int) + ((x : Int) * (y : Int) + (old : Int))) = (sm : Int) := by
      rw [show (c' : Int) + ((x : Int) * (y : Int) + (old : Int)) = (sm : Int) by rw [hsm]; push_cast; omega]; exact IntWalk.u64_in _ (by omega)
     have m3' : ((c' : Int) + ((x : Int) * (y : Int) + (old : Int))) % 18446744073709551616 = (sm : Int) := by
      rw [show (c' : Int) + ((x : Int) * (y : Int) + (old : Int)) = (sm : Int) by rw [hsm]; push_cast; omega]; omega
     have hE1 : (sm : Int) / 4294967296 = ((sm / 4294967296 : Nat) : Int) := by omega
     have hE2 : (sm : Int) % 4294967296 = ((sm % 4294967296 : Nat) : Int) := by omega
     have hnx := HR.out.2.next HY.out HO.out hxl hyl
     rw [← hsm] at hnx
     have HNX := Lib.hid hnx
     have hq1 : sm % 4294967296 < 4294967296 := by omega
     have hlt3 : decide ((j : Int) < (lb : Int)) = true := by simp; omega
     clear hxy hnx hsm
     generalize sm % 4294967296 = lo at *
     generalize sm / 4294967296 = hi at *
     have HMW := Hi (fun q => (HR.out.1.drewN q).put (k + j) lo)
     go_upto_region 9 with (fail)
     go_quiet (fail)
     go_wp2_with fail
     go_roundw
     case rel => exact ⟨j + 1, o.set (k + j) lo, hi, rfl, by push_cast; rfl, by omega, Lib.hid ⟨HMW.out _, HNX.out⟩⟩
     case measure => simp [intOf]; omega
    ·obtain rfl : j = lb := by omega
     have hc' := HR.out.2
     have hcl := hc'.c
     rw [HLB.out] at hc'
     have hlv := hc'.leave HX.out
     rw [← HLB.out] at hlv
     obtain ⟨old, ho⟩ : ∃ old, o[k + j]? = some old := ⟨_, List.getElem?_eq_getElem (by have := HR.out.2.len; have := HLA.out; have := HLB.out; omega)⟩
     have e0 := HR.out.1.2.1.cell (k + j)
     rw [wdA_get ho] at e0
     have ez := HR.out.1.2.1.frozen (k + j)
     have qlt := HR.out.1.2.1.lt
     have HO := Lib.hid hlv
     have hlt3 : decide ((j : Int) < (j : Int)) = false := by simp
     have hcm : (c' : Int) % 4294967296 = (c' : Int) := by omega
     clear hc' hlv ho
     go_wp2_with fail
     go_roundw
     case rel => exact ⟨k + 1, o.set (k + j) c', by push_cast; rfl, by omega, Lib.hid ⟨HR.out.1.put _ _, HO.out⟩⟩
     case measure => simp [intOf]; omega
  ·obtain rfl : k = la := by omega
   have hv := HR.out.2.val
   have hlen := HR.out.2.len
   have hr : RdU wr 81 (.slice (some ⟨g, 0, none⟩) o.length (k + lb)) o.length (o.map wd) := ⟨by simp, _, _, rfl, by rw [HLA.out, HLB.out]; omega, fun _ => ⟨_, _, _, rfl, HR.out.1.2.1, fun i u hu => by rw [Nat.zero_add]; simpa [wdA] using hu⟩⟩
   have HT := Hi (HMk.out (s != t) o _ wr hr (by have := HLA.out; have := HLB.out; omega) HR.out.2.lt)
   rw [show o.length = k + lb by rw [HLA.out, HLB.out]; exact hlen] at HT
   rw [show vW o = x * y by rw [hv, HLA.out, List.take_length, HV.out.1, HV.out.2]] at HT
   have hlt1 : decide ((k : Int) < (k : Int)) = false := by simp
   clear hv hlen hr
   generalize x * y = z at *
   go_wp2_with fail
   refine HT.out.mono ?_
   rintro e w' ⟨m', rfl, hI, hb⟩
   obtain ⟨A4, n4, c4, rfl⟩ := hI.slice
   generalize ((s != t) && decide (0 < z)) = sr at *
   have q4 := HR.out.1.2.2.2.2.1.kept hb
   have hBf := HR.out.1.1.trans (hb.mono HR.out.1.1.size)
   have z0 := q4.cell 0
   have z1 := q4.cell 1
   have y0 := q4.frozen 0
   have y1 := q4.frozen 1
   have zl := q4.lt
   go_wp2_with fail
   have q5 := (q4.put 0 (.bool sr)).put 1 (.slice A4 n4 c4)
   have x0 := q5.cell 0
   have x1 := q5.cell 1
   exact bodyPost_ret (v := .agg #[.bool sr, .slice A4 n4 c4]) (by simp [results, results124, go_sem, x0, x1]) rfl ⟨_, rfl, iv_set2 hI q4 _ _, (hBf.setCell (by simp; omega) _).setCell (by simp; omega) _⟩
set_option maxRecDepth 100000
set_option maxHeartbeats 4000000
def prevW (l : List Nat) (i : Nat) : Nat := if i = 0 then 0 else l.getD (i - 1) 0
theorem prevW_lt {l : List Nat} (h : ∀ d ∈ l, d < 4294967296) (i : Nat) : prevW l i < 4294967296 := by
 unfold prevW
 split
 ·decide
 ·exact getD_lt h _
theorem RWordP_calls (ws : List Nat) (i : Nat) (m : Value) (w : World) (h : Rd w 1 m ws.length (ws.map wd)) (hl : ws.length ≤ 1000000) (hi : i ≤ 1000000) (hw : ∀ d ∈ ws, d < 4294967296) :
  Calls prog 296 #[m, .int .i64 ((i : Int) - 1)] w fun e w' => e = .returned (.int .u64 ((prevW ws i : Nat) : Int)) ∧ Below w.heap.size w w' := by
 rcases i with _ | i
 ·rw [show (((0 : Nat) : Int) - 1) = -1 from rfl, show prevW ws 0 = 0 from rfl]
  obtain ⟨_, A, c, rfl, _, hA⟩ := h
  clear hA hw hi
  generalize ws.length = n at *
  go_enter func296, ntmps296
  go_wp2_with fail
  go_ret
  exact ⟨rfl, by repeat (first | exact Below.refl _ _ | refine below_dN ?_ _)⟩
 ·rw [show (((i + 1 : Nat) : Int) - 1) = (i : Int) by omega, show prevW ws (i + 1) = ws.getD i 0 by simp [prevW]]
  exact RWord_calls ws i m w h hl (by omega) hw
def shW (l : List Nat) (k i : Nat) : Nat := (l.getD i 0 * 2 ^ k ||| prevW l i * 2 ^ k / 4294967296) % 4294967296
def leftT (l : List Nat) (q k j : Nat) : List Nat := List.replicate q 0 ++ (List.range j).map (shW l k)
def leftW (l : List Nat) (n : Nat) : List Nat := leftT l (n / 32) (n % 32) (l.length + 1)
theorem leftT_len (l : List Nat) (q k j : Nat) : (leftT l q k j).length = q + j := by simp [leftT]
theorem leftT_succ (l : List Nat) (q k j : Nat) : leftT l q k (j + 1) = leftT l q k j ++ [shW l k j] := by simp [leftT, List.range_succ]
theorem leftT_lt (l : List Nat) (q k j : Nat) : ∀ d ∈ leftT l q k j, d < 4294967296 := fun d hd => by
 rcases List.mem_append.1 hd with h | h
 ·rw [List.eq_of_mem_replicate h]; decide
 ·obtain ⟨i, _, rfl⟩ := List.mem_map.1 h
  unfold shW
  omega
theorem leftW_len (l : List Nat) (n : Nat) : (leftW l n).length = n / 32 + (l.length + 1) := leftT_len _ _ _ _
theorem leftW_one : ∀ n, n < 32 → vW (leftW [1] n) = 2 ^ n := by decide +kernel
theorem pow32 {k : Nat} (h : k < 32) : 2 ^ k ≤ 2147483648 := by
 have := Nat.pow_le_pow_right (n := 2) (by omega) (show k ≤ 31 by omega)
 simpa using this
theorem RLeft_calls (l : List Nat) (n : Nat) (m : Value) (w : World) (h : RdU w 81 m l.length (l.map wd)) (hd : ∀ d ∈ l, d < 4294967296) (hl : l.length ≤ 1000) (hn : n ≤ 100000) :
  Calls prog 396 #[m, .int .i64 n] w fun e w' => ∃ v, e = .returned v ∧ OwnS w' w.heap.size 81 1 v (leftW l n).length ((leftW l n).map wd) ∧ Below w.heap.size w w' := by
 have HA := Hi (fun j (hj : j ≤ 1000000) W (h' : Below w.heap.size w W) => RWord_calls l j m W ((h.kept h').rd) (by omega) hj hd)
 have HP := Hi (fun j (hj : j ≤ 1000000) W (h' : Below w.heap.size w W) => RWordP_calls l j m W ((h.kept h').rd) (by omega) hj hd)
 have HD := Lib.hid hd
 obtain ⟨A, c1, rfl, _, _⟩ := h.at
 obtain ⟨na, hna⟩ : ∃ na, na = l.length := ⟨_, rfl⟩
 obtain ⟨q, hq⟩ : ∃ q, q = n / 32 := ⟨_, rfl⟩
 obtain ⟨k, hk⟩ : ∃ k, k = n % 32 := ⟨_, rfl⟩
 have HN := Hi (show leftW l n = leftT l q k (na + 1) by rw [hq, hk, hna]; rfl)
 have hk32 : k < 32 := by omega
 have hq5 : q ≤ 4000 := by omega
 have hnd : (n : Int) / 32 = (q : Int) := by omega
 have hnm : (n : Int) % 32 = (k : Int) := by omega
 rw [HN.out]
 have hmk := run_mkW q (by omega) w
 have HO := Hi (show OwnS (w.alloc (.cells (wdA (List.replicate q 0)) 81)) w.heap.size 81 1 (.slice (some ⟨w.heap.size, 0, none⟩) q q) (q + 0) ((leftT l q k 0).map wd) from ⟨_, _, rfl, by
  have := World.ownsRow_lit (base := w.heap.size) (e := 81) (size := 1) w (wdA (List.replicate q 0)) q (Nat.le_refl _) (by unfold maxLen; omega) (by simp [wdA])
  simpa [wdA, leftT] using this⟩)
 have HB0 := Hi ((Below.refl w.heap.size w).alloc (Nat.le_refl _) (.cells (wdA (List.replicate q 0)) 81))
 obtain ⟨P, hP⟩ : ∃ P, P = 2 ^ k := ⟨_, rfl⟩
 have hP31 : P ≤ 2147483648 := hP ▸ pow32 hk32
 have hP2 : (2 : Int) ^ k = (P : Int) := by rw [hP]; push_cast; rfl
 have HPk := Lib.hid hP
 clear hP
 rw [← hna] at hl HA HP ⊢
 clear h hd hq hk hna
 go_enter func396, ntmps396
 go_wp2_with fail
 clear hmk
 rw [hnm]
 generalize w.alloc _ = W0 at *
 go_loopw [5, 7] (fun ov iv wr => ∃ j : Nat, iv = .int .i64 j ∧ j ≤ na + 1 ∧ Hid (OwnS wr w.heap.size 81 1 ov (q + j) ((leftT l q k j).map wd)) ∧ Hid (Below w.heap.size w wr)) (fun _ iv _ => na + 1 - (intOf iv).toNat)
 case atStart => exact ⟨0, rfl, by omega, HO, HB0⟩
 case round =>
  obtain ⟨j, rfl, hj, ho, HBr⟩ := hrel
  obtain ⟨g3, c3, rfl, ho3⟩ := ho.out
  by_cases hlt : j < na + 1
  ·obtain ⟨x, hx⟩ : ∃ x, x = l.getD j 0 := ⟨_, rfl⟩
   obtain ⟨y, hy⟩ : ∃ y, y = prevW l j := ⟨_, rfl⟩
   have hx32 : x < 4294967296 := by rw [hx]; exact getD_lt HD.out j
   have hy32 : y < 4294967296 := by rw [hy]; exact prevW_lt HD.out j
   have HW1 := Hi (HA.out j (by omega))
   have HW2 := Hi (HP.out j (by omega))
   rw [← hx] at HW1
   rw [← hy] at HW2
   have hlt1 : decide ((j : Int) ≤ (na : Int)) = true := by simp; omega
   have HXY := Hi (And.intro hx hy)
   clear hx hy
   go_wp2_with fail
   refine (HW1.out _ HBr.out).mono ?_
   rintro e w1 ⟨rfl, hb1⟩
   have hB1 := HBr.out.trans (hb1.mono HBr.out.size)
   go_wp2_with fail
   refine (HW2.out _ hB1).mono ?_
   rintro e w2 ⟨rfl, hb2⟩
   have hB2 := hB1.trans (hb2.mono hB1.size)
   have hoi := ownsRow_kept (ownsRow_kept ho3 hb1) hb2
   have hsz := hB2.size
   have HK := Hi (And.intro hB2 hoi)
   clear hB1 hB2 hb1 hb2 ho3
   have hxP : x * P ≤ 4294967295 * 2147483648 := Nat.mul_le_mul (by omega) hP31
   have hyP : y * P ≤ 4294967295 * 2147483648 := Nat.mul_le_mul (by omega) hP31
   obtain ⟨X, hX⟩ : ∃ X, X = x * P := ⟨_, rfl⟩
   obtain ⟨Y, hY⟩ : ∃ Y, Y = y * P := ⟨_, rfl⟩
   obtain ⟨Z, hZ⟩ : ∃ Z, Z = X ||| Y / 4294967296 := ⟨_, rfl⟩
   obtain ⟨s1, hs1⟩ : ∃ s1, s1 = Z % 4294967296 := ⟨_, rfl⟩
   have HSH := Hi (show shW l k j = s1 by rw [hs1, hZ, hX, hY, HXY.out.1, HXY.out.2, HPk.out]; rfl)
   have e1 : IntKind.u64.wrap ((x : Int) * (2 : Int) ^ k) = (X : Int) := by rw [hP2, hX, ← Int.natCast_mul]; exact IntWalk.u64_in _ (by omega)
   have e2 : IntKind.u64.wrap ((y : Int) * (2 : Int) ^ k) = (Y : Int) := by rw [hP2, hY, ← Int.natCast_mul]; exact IntWalk.u64_in _ (by omega)
   have e1' : IntKind.u64.wrap ((x : Int) * (P : Int)) = (X : Int) := by rw [hX, ← Int.natCast_mul]; exact IntWalk.u64_in _ (by omega)
   have e2' : IntKind.u64.wrap ((y : Int) * (P : Int)) = (Y : Int) := by rw [hY, ← Int.natCast_mul]; exact IntWalk.u64_in _ (by omega)
   obtain ⟨Y2, hY2⟩ : ∃ Y2, Y2 = Y / 4294967296 := ⟨_, rfl⟩
   have e3 : (Y : Int) / 4294967296 = (Y2 : Int) := by omega
   have e4 : bits .or .u64 (X : Int) (Y2 : Int) = (Z : Int) := by rw [hZ, ← hY2]; exact bits_or_u64_nat X Y2 (by omega) (by omega)
   have e5 : (Z : Int) % 4294967296 = (s1 : Int) := by omega
   have hs32 : s1 < 4294967296 := by omega
   clear hxP hyP hX hY hZ hs1 hY2
   go_wp2_with (at_builtin; refine app T_w32 rfl _ _ rfl w.heap.size (.slice (some ⟨g3, 0, none⟩) (q + j) c3) (q + j) ((leftT l q k j).map wd) rfl (HK.out.2.alloc _) w2.heap.size 0 1 1 [.int .u32 s1] rfl rfl (fun j u h => by simpa using cells_new w2 [.int .u32 s1] 81 j u h) (fun u hu => by simp at hu; subst hu; rfl) (by omega) (by omega) (by simp; omega) ?_; intro v' w3 hown' hgrow hnil)
   go_roundw
   case rel =>
    have hB3 := HK.out.1.alloc HK.out.1.size (.cells #[.int .u32 s1] 81)
    have hO3 := OwnS.grow (v := .slice (some ⟨g3, 0, none⟩) (q + j) c3) hown' hnil (by simp)
    refine ⟨j + 1, by push_cast; rfl, by omega, Lib.hid ?_, Hi (hB3.grown hgrow (by simp; omega) (fun b hb => by have := (HK.out.2.lt b hb).1; omega))⟩
    rw [leftT_succ, HSH.out, List.map_append]
    exact hO3
   case measure => simp [intOf]; omega
  ·obtain rfl : j = na + 1 := by omega
   have hlt1 : decide (((na + 1 : Nat) : Int) ≤ (na : Int)) = false := by simp; omega
   have hlt2 : decide (((na : Int) + 1) ≤ (na : Int)) = false := by simp; omega
   go_wp2_with fail
   exact bodyPost_ret (v := .slice (some ⟨g3, 0, none⟩) (q + (na + 1)) c3) (by simp [results, results396, go_sem]) rfl ⟨_, rfl, by rw [leftT_len]; exact ho.out, HBr.out⟩
set_option maxRecDepth 100000
set_option maxHeartbeats 4000000
def RowB (w : World) (g : Nat) (us : List Nat) : Prop := ∃ cur, Bk w g 81 cur ∧ ∀ (i x : Nat), us[i]? = some x → cur[i]? = some (wd x)
theorem RowB.kept {w w' : World} {g : Nat} {us : List Nat} (h : RowB w g us) (hb : Below w.heap.size w w') : RowB w' g us := let ⟨cur, q, hc⟩ := h; ⟨cur, q.kept hb, hc⟩
theorem RowB.lt {w : World} {g : Nat} {us : List Nat} (h : RowB w g us) : g < w.heap.size := let ⟨_, q, _⟩ := h; q.lt
theorem RowB.cell {w : World} {g i x : Nat} {us : List Nat} (h : RowB w g us) (hx : us[i]? = some x) : w.cell? ⟨g, i, none⟩ = some (wd x) := by
 obtain ⟨cur, q, hc⟩ := h
 rw [q.cell]
 exact hc i x hx
theorem RowB.frozen {w : World} {g : Nat} {us : List Nat} (h : RowB w g us) (i : Nat) : w.frozen? ⟨g, i, none⟩ = false := let ⟨_, q, _⟩ := h; q.frozen i
theorem RowB.put {w : World} {g : Nat} {us : List Nat} (h : RowB w g us) (k d : Nat) : RowB (w.setCell ⟨g, k, none⟩ (wd d)) g (us.set k d) := by
 obtain ⟨cur, q, hc⟩ := h
 refine ⟨_, q.put k (wd d), fun i x hx => ?_⟩
 rw [List.getElem?_set] at hx
 by_cases hik : k = i
 ·subst hik
  rw [if_pos rfl] at hx
  by_cases hl : k < us.length
  ·rw [if_pos hl] at hx
   injection hx with hx
   subst hx
   have := hc k _ (List.getElem?_eq_getElem hl)
   exact Array.getElem?_setIfInBounds_self_of_lt (Array.getElem?_eq_some_iff.1 this).1
  ·rw [if_neg hl] at hx
   cases hx
 ·rw [if_neg hik] at hx
  rw [Array.getElem?_setIfInBounds_ne (by omega)]
  exact hc i x hx
theorem RowB.rdu {w : World} {g c : Nat} {us : List Nat} (h : RowB w g us) (hc : us.length ≤ c) : RdU w 81 (.slice (some ⟨g, 0, none⟩) us.length c) us.length (us.map wd) := by
 obtain ⟨cur, q, hcc⟩ := h
 refine ⟨by simp, _, _, rfl, hc, fun _ => ⟨g, 0, cur, rfl, q, fun j u hu => ?_⟩⟩
 rw [Nat.zero_add]
 rw [List.getElem?_map] at hu
 obtain ⟨x, hx, rfl⟩ := Option.map_eq_some_iff.1 hu
 exact hcc j x hx
theorem RowB.own {w : World} {base g c n : Nat} {us : List Nat} (h : OwnS w base 81 1 (.slice (some ⟨g, 0, none⟩) n c) n (us.map wd)) (hn : 0 < n) : RowB w g us := by
 obtain ⟨g', c', cur, hv, _, q, hc⟩ := own_at h.own hn
 injection hv with e1 _ _
 injection e1 with e1
 injection e1 with e1 _ _
 subst e1
 exact ⟨cur, q, fun i x hx => hc i _ (by simp [hx])⟩
theorem RowB.grown {w w' : World} {g g2 : Nat} {us : List Nat} (h : RowB w g2 us) (hg : w.grownBy w' (some g)) (hne : g2 ≠ g) : RowB w' g2 us := let ⟨cur, q, hc⟩ := h; ⟨cur, q.grown hg (by simpa using hne), hc⟩
theorem grown_refl (w : World) (g : Nat) : w.grownBy w (some g) := ⟨rfl, rfl, rfl, Nat.le_refl _, fun _ _ _ => rfl⟩
theorem grown_below {w w1 w2 : World} {g : Nat} (h : w.grownBy w1 (some g)) (hb : Below w1.heap.size w1 w2) : w.grownBy w2 (some g) :=
 ⟨hb.os.trans h.os, hb.tape.trans h.tape, hb.output.trans h.output, Nat.le_trans h.size hb.size, fun k hk hne => (hb.block k (Nat.lt_of_lt_of_le hk h.size)).trans (h.block k hk hne)⟩
theorem grown_put {w w1 : World} {g : Nat} (h : w.grownBy w1 (some g)) (i : Nat) (u : Value) : w.grownBy (w1.setCell ⟨g, i, none⟩ u) (some g) :=
 ⟨h.os, h.tape, h.output, by simpa [World.setCell] using h.size, fun k hk hne => (Below.heap_setCell _ _ _ _ (fun e => hne (by rw [e]))).trans (h.block k hk hne)⟩
def RetRw (w : World) (g n : Nat) (e : Ending) (w' : World) : Prop := e = .returned (.tuple #[]) ∧ w.grownBy w' (some g) ∧ ∃ us : List Nat, us.length = n ∧ (∀ d ∈ us, d < 4294967296) ∧ RowB w' g us
theorem mem_set_lt {us : List Nat} {k d : Nat} (h : ∀ x ∈ us, x < 4294967296) (hd : d < 4294967296) : ∀ x ∈ us.set k d, x < 4294967296 := fun x hx => by
 rcases List.mem_or_eq_of_mem_set hx with h1 | h1
 ·exact h x h1
 ·rw [h1]; exact hd
theorem RHalf_calls (us : List Nat) (g c : Nat) (w : World) (h : RowB w g us) (hd : ∀ d ∈ us, d < 4294967296) (hl : us.length ≤ 100000) (hc : us.length ≤ c) :
  Calls prog 501 #[.slice (some ⟨g, 0, none⟩) us.length c] w (RetRw w g us.length) := by
 obtain ⟨n, hn⟩ : ∃ n, n = us.length := ⟨_, rfl⟩
 have H0 := Hi (And.intro hn.symm (And.intro hd (And.intro h (grown_refl w g))))
 rw [← hn] at hl hc ⊢
 clear h hd hn
 go_enter func501, ntmps501
 go_wp2_with fail
 go_loopw [2] (fun iv wr => ∃ (j : Nat) (vs : List Nat), iv = .int .i64 j ∧ j ≤ n ∧ Hid (vs.length = n ∧ (∀ d ∈ vs, d < 4294967296) ∧ RowB wr g vs ∧ w.grownBy wr (some g))) (fun iv _ => n - (intOf iv).toNat)
 case atStart => exact ⟨0, us, rfl, by omega, H0⟩
 case round =>
  obtain ⟨j, vs, rfl, hj, HR⟩ := hrel
  by_cases hlt : j < n
  ·have hrd := HR.out.2.2.1.rdu (c := c) (by rw [HR.out.1]; exact hc)
   have HW1 := RWord_calls vs j _ wr hrd.rd (by rw [HR.out.1]; omega) (by omega) HR.out.2.1
   have HW2 := fun W (hb : Below wr.heap.size wr W) => RWord_calls vs (j + 1) _ W (hrd.kept hb).rd (by rw [HR.out.1]; omega) (by omega) HR.out.2.1
   rw [HR.out.1] at HW1
   rw [HR.out.1] at HW2
   obtain ⟨x, hx⟩ : ∃ x, x = vs.getD j 0 := ⟨_, rfl⟩
   obtain ⟨y, hy⟩ : ∃ y, y = vs.getD (j + 1) 0 := ⟨_, rfl⟩
   have hx32 : x < 4294967296 := by rw [hx]; exact getD_lt HR.out.2.1 j
   have hy32 : y < 4294967296 := by rw [hy]; exact getD_lt HR.out.2.1 (j + 1)
   have HX := Hi (show vs[j]? = some x by
    have hjl : j < vs.length := by rw [HR.out.1]; exact hlt
    rw [hx, List.getD_eq_getElem?_getD, List.getElem?_eq_getElem hjl]
    rfl)
   rw [← hx] at HW1
   rw [← hy] at HW2
   have HW1 := Lib.hid HW1
   have HW2 := Lib.hid HW2
   obtain ⟨X, hX⟩ : ∃ X, X = x / 2 := ⟨_, rfl⟩
   obtain ⟨Y, hY⟩ : ∃ Y, Y = y * 2147483648 := ⟨_, rfl⟩
   obtain ⟨Z, hZ⟩ : ∃ Z, Z = X ||| Y := ⟨_, rfl⟩
   obtain ⟨s1, hs1⟩ : ∃ s1, s1 = Z % 4294967296 := ⟨_, rfl⟩
   have e1 : (x : Int) / 2 = (X : Int) := by omega
   have e2 : IntKind.u64.wrap ((y : Int) * 2147483648) = (Y : Int) := by rw [show (y : Int) * 2147483648 = (Y : Int) by omega]; exact IntWalk.u64_in _ (by omega)
   have e2' : ((y : Int) * 2147483648) % 18446744073709551616 = (Y : Int) := by omega
   have e4 : bits .or .u64 (X : Int) (Y : Int) = (Z : Int) := by rw [hZ]; exact bits_or_u64_nat X Y (by omega) (by omega)
   have e5 : (Z : Int) % 4294967296 = (s1 : Int) := by omega
   have hs32 : s1 < 4294967296 := by omega
   have hlt1 : decide ((j : Int) < (n : Int)) = true := by simp; omega
   have hj1 : ((j + 1 : Nat) : Int) = (j : Int) + 1 := by omega
   clear hx hy hX hY hZ hs1 hrd
   go_wp2_with fail
   refine HW1.out.mono ?_
   rintro e w1 ⟨rfl, hb1⟩
   go_wp2_with fail
   rw [hj1] at HW2
   refine (HW2.out _ hb1).mono ?_
   rintro e w2 ⟨rfl, hb2⟩
   have hB := hb1.trans (hb2.mono hb1.size)
   have qr := HR.out.2.2.1.kept hB
   have c0 := qr.cell HX.out
   have c1 := qr.frozen j
   have c2 := qr.lt
   have HK := Hi (And.intro qr (grown_below HR.out.2.2.2 hB))
   clear qr hB hb1 hb2
   go_wp2_with fail
   go_roundw
   case rel => exact ⟨j + 1, vs.set j s1, by push_cast; rfl, by omega, Lib.hid ⟨by rw [List.length_set]; exact HR.out.1, mem_set_lt HR.out.2.1 hs32, HK.out.1.put j s1, grown_put HK.out.2 j _⟩⟩
   case measure => simp [intOf]; omega
  ·obtain rfl : j = n := by omega
   have hlt1 : decide ((j : Int) < (j : Int)) = false := by simp
   go_wp2_with fail
   exact bodyPost_end (v := .tuple #[]) (by simp [results, results501, go_sem]) rfl ⟨rfl, HR.out.2.2.2, vs, HR.out.1, HR.out.2.1, HR.out.2.2.1⟩
theorem RTake_calls (us bs : List Nat) (g c g2 c2 : Nat) (w : World) (h : RowB w g us) (hb : RowB w g2 bs) (hne : g2 ≠ g) (hd : ∀ d ∈ us, d < 4294967296) (hdb : ∀ d ∈ bs, d < 4294967296) (hl : us.length ≤ 100000) (hlb : bs.length ≤ 100000) (hc : us.length ≤ c) (hc2 : bs.length ≤ c2) :
  Calls prog 500 #[.slice (some ⟨g, 0, none⟩) us.length c, .slice (some ⟨g2, 0, none⟩) bs.length c2] w (RetRw w g us.length) := by
 obtain ⟨n, hn⟩ : ∃ n, n = us.length := ⟨_, rfl⟩
 obtain ⟨m, hm⟩ : ∃ m, m = bs.length := ⟨_, rfl⟩
 have H0 := Hi (And.intro hn.symm (And.intro hd (And.intro h (And.intro hb (grown_refl w g)))))
 have HB := Hi (And.intro hm.symm (And.intro hdb hne))
 rw [← hn] at hl hc ⊢
 rw [← hm] at hlb hc2 ⊢
 clear h hd hn hb hdb hm hne
 go_enter func500, ntmps500
 go_wp2_with fail
 go_loopw [4, 5] (fun rv iv wr => ∃ (j r : Nat) (vs : List Nat), rv = .int .u64 r ∧ r ≤ 1 ∧ iv = .int .i64 j ∧ j ≤ n ∧ Hid (vs.length = n ∧ (∀ d ∈ vs, d < 4294967296) ∧ RowB wr g vs ∧ RowB wr g2 bs ∧ w.grownBy wr (some g))) (fun _ iv _ => n - (intOf iv).toNat)
 case atStart => exact ⟨0, 0, us, rfl, by omega, rfl, by omega, H0⟩
 case round =>
  obtain ⟨j, r, vs, rfl, hr, rfl, hj, HR⟩ := hrel
  by_cases hlt : j < n
  ·have hrd := HR.out.2.2.2.1.rdu (c := c2) (by rw [HB.out.1]; exact hc2)
   have HW := fun W (hb : Below wr.heap.size wr W) => RWord_calls bs j _ W (hrd.kept hb).rd (by rw [HB.out.1]; omega) (by omega) HB.out.2.1
   rw [HB.out.1] at HW
   obtain ⟨y, hy⟩ : ∃ y, y = bs.getD j 0 := ⟨_, rfl⟩
   have hy32 : y < 4294967296 := by rw [hy]; exact getD_lt HB.out.2.1 j
   rw [← hy] at HW
   have HW := Lib.hid HW
   obtain ⟨x, hx⟩ : ∃ x, vs[j]? = some x := ⟨_, List.getElem?_eq_getElem (by rw [HR.out.1]; exact hlt)⟩
   have hx32 : x < 4294967296 := HR.out.2.1 _ (List.mem_of_getElem? hx)
   have HX := Lib.hid hx
   have c0 := HR.out.2.2.1.cell hx
   rw [show wd x = .int .u32 (x : Int) from rfl] at c0
   have cl := HR.out.2.2.1.lt
   obtain ⟨t, ht⟩ : ∃ t, t = 4294967296 + x - y - r := ⟨_, rfl⟩
   obtain ⟨s1, hs1⟩ : ∃ s1, s1 = t % 4294967296 := ⟨_, rfl⟩
   obtain ⟨q, hq⟩ : ∃ q, q = t / 4294967296 := ⟨_, rfl⟩
   obtain ⟨r2, hr2⟩ : ∃ r2, r2 = 1 - q := ⟨_, rfl⟩
   have e0 : IntKind.u64.wrap (x : Int) = (x : Int) := IntWalk.u64_in _ (by omega)
   have e1 : IntKind.u64.wrap (4294967296 + (x : Int)) = 4294967296 + (x : Int) := IntWalk.u64_in _ (by omega)
   have e2 : IntKind.u64.wrap (4294967296 + (x : Int) - (y : Int)) = 4294967296 + (x : Int) - (y : Int) := IntWalk.u64_in _ (by omega)
   have e3 : IntKind.u64.wrap (4294967296 + (x : Int) - (y : Int) - (r : Int)) = (t : Int) := by rw [show 4294967296 + (x : Int) - (y : Int) - (r : Int) = (t : Int) by omega]; exact IntWalk.u64_in _ (by omega)
   have e4 : (t : Int) % 4294967296 = (s1 : Int) := by omega
   have e5 : (t : Int) / 4294967296 = (q : Int) := by omega
   have e6 : IntKind.u64.wrap (1 - (q : Int)) = (r2 : Int) := by rw [show 1 - (q : Int) = (r2 : Int) by omega]; exact IntWalk.u64_in _ (by omega)
   have hs32 : s1 < 4294967296 := by omega
   have hr21 : r2 ≤ 1 := by omega
   have hlt1 : decide ((j : Int) < (n : Int)) = true := by simp; omega
   clear hy hx ht hs1 hq hr2 hrd
   go_wp2_with fail
   go_region_held3 (fun w' => (∀ b o, b < wr.heap.size → w'.cell? ⟨b, o, none⟩ = wr.cell? ⟨b, o, none⟩) ∧ Below wr.heap.size wr w')
    (first | exact sk_start _ | exact sk_step (by assumption) (by assumption))
    ((go_at_call 296; (with_reducible refine (HW.out _ (And.right (by assumption))).mono ?_); rintro e w' ⟨rfl, hBc⟩))
   rename_i hH
   have hB := hH.2
   have qr := HR.out.2.2.1.kept hB
   have d0 := qr.cell HX.out
   have d1 := qr.frozen j
   have d2 := qr.lt
   have HK := Hi (And.intro qr (And.intro (HR.out.2.2.2.1.kept hB) (grown_below HR.out.2.2.2.2 hB)))
   clear qr hB hH c0 cl
   go_wp2_with fail
   go_roundw
   case rel => exact ⟨j + 1, r2, vs.set j s1, rfl, hr21, by push_cast; rfl, by omega, Lib.hid ⟨by rw [List.length_set]; exact HR.out.1, mem_set_lt HR.out.2.1 hs32, HK.out.1.put j s1, by
    obtain ⟨cur, q, hc⟩ := HK.out.2.1
    exact ⟨cur, q.far _ HB.out.2.2, hc⟩, grown_put HK.out.2.2 j _⟩⟩
   case measure => simp [intOf]; omega
  ·obtain rfl : j = n := by omega
   have hlt1 : decide ((j : Int) < (j : Int)) = false := by simp
   go_wp2_with fail
   exact bodyPost_end (v := .tuple #[]) (by simp [results, results500, go_sem]) rfl ⟨rfl, HR.out.2.2.2.2, vs, HR.out.1, HR.out.2.1, HR.out.2.2.1⟩
end Go.Proofs.YthjilnnmahcnpaaGreatDoor
