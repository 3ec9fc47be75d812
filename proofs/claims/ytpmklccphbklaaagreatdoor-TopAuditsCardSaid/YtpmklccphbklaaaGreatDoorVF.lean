/- TopAudits: the certificate of a curve: its twist, the number of its po. -/
import Derived.Test.YtpmklccphbklaaaGreatDoorWX
import Derived.Test.YtpmklccphbklaaaGreatDoorVE
namespace Go.Proofs.YtpmklccphbklaaaGreatDoor
open Go.RowKit Go.Shelf Go.Proofs.Tryz
set_option maxRecDepth 100000
set_option maxHeartbeats 8000000
theorem T_bools : ElemT 527 4 (.bool false) 1 1 := ⟨by kernel_rfl, by kernel_rfl, rfl, by decide⟩
def boolA (o : List Bool) : Array Value := (o.map Value.bool).toArray
theorem boolA_get {o : List Bool} {k : Nat} {x : Bool} (h : o[k]? = some x) : (boolA o)[k]? = some (.bool x) := by simp [boolA, h]
theorem boolA_set (o : List Bool) (k : Nat) (d : Bool) : (boolA o).setIfInBounds k (.bool d) = boolA (o.set k d) := by simp [boolA, List.map_set]
theorem run_mkBools (n : Nat) (hn : n ≤ 100000) (w : World) : (Instr.makeSlice 527 (.int .i64 n) (.int .i64 n)).run prog w = .ok (.slice (some ⟨w.heap.size, 0, none⟩) n n) (w.alloc (.cells (boolA (List.replicate n false)) 4)) := by
 obtain ⟨i, hi, hz0, hz1, hz2⟩ := info_parts T_bools.hi
 have := run_makeSlice (P := prog) w 527 4 i (.bool false) T_bools.ht hi hz0 .i64 .i64 n n (by omega) (Int.le_refl _) (by rw [hz1]; omega) (by rw [hz2]; omega) (by omega)
 rw [this, hz1]
 have he : madeCells (Value.bool false).cells n = boolA (List.replicate n false) := by
  apply Array.ext_getElem?
  intro j
  simp only [madeCells, Value.cells, boolA, List.map_replicate, List.getElem?_toArray, Array.getElem?_map, List.getElem?_replicate]
  by_cases hj : j < n
  ·rw [if_pos hj, Array.getElem?_eq_getElem (by simpa using hj)]
   simp [Nat.mod_one]
  ·rw [if_neg hj, Array.getElem?_eq_none (by simpa using hj)]
   rfl
 simp only [Int.toNat_natCast, Nat.mul_one, he]
def sqb (p i : Nat) : List Bool := (List.range p).map fun k => (List.range i).any fun y => y * y % p == k
theorem sqb_len (p i : Nat) : (sqb p i).length = p := by simp [sqb]
theorem sqb_zero (p : Nat) : sqb p 0 = List.replicate p false := by
 apply List.ext_getElem?
 intro k
 by_cases hk : k < p <;> simp [sqb, hk]
theorem sqb_step {p i : Nat} (hp : 0 < p) : (sqb p i).set (i * i % p) true = sqb p (i + 1) := by
 have hk := Nat.mod_lt (i * i) hp
 apply List.ext_getElem?
 intro k
 rw [List.getElem?_set]
 by_cases hkp : k < p
 ·have h1 : (sqb p (i + 1))[k]? = some ((List.range (i + 1)).any fun y => y * y % p == k) := by simp [sqb, hkp]
  have h0 : (sqb p i)[k]? = some ((List.range i).any fun y => y * y % p == k) := by simp [sqb, hkp]
  rw [h1, List.range_succ, List.any_append]
  by_cases he : i * i % p = k
  ·subst he
   rw [if_pos rfl, if_pos (by rw [sqb_len]; exact hk)]
   simp
  ·rw [if_neg he, h0]
   simp [he]
 ·rw [if_neg (by omega), List.getElem?_eq_none (by rw [sqb_len]; omega), List.getElem?_eq_none (by rw [sqb_len]; omega)]
theorem Twist_calls (p a b d0 : Nat) (w : World) (hp : 5 ≤ p) (hp' : p ≤ 1000) (hpr : primeB p = true) (ha : a < p) (hb : b < p) (hok : okI p a b = true) (hd : 2 ≤ d0 ∧ d0 < p) (hd0 : (sqb p p)[d0]? = some false) (hd1 : ∀ d, 2 ≤ d → d < d0 → (sqb p p)[d]? = some true) :
  Calls prog 349 #[cv p a b] w fun e w' => ∃ x1 x2 x3 : Int, e = .returned (.tuple #[.agg #[.int .i64 x1, .int .i64 x2, .int .i64 x3], .int .i64 0]) ∧ Below w.heap.size w w' := by
 have HV := Hi (fun W => Valid_calls p a b W (by omega) (by omega) hpr (by omega) (by omega) (by omega) (by omega))
 rw [hok] at HV
 have q1 := (Bk.new w 71 #[.int .i64 p, .int .i64 a, .int .i64 b]).alloc (.cells #[.int .i64 0, .int .i64 0, .int .i64 0] 71)
 have q2 := Bk.new (w.alloc (.cells #[.int .i64 p, .int .i64 a, .int .i64 b] 71)) 71 #[.int .i64 0, .int .i64 0, .int .i64 0]
 rw [World.size_alloc] at q2
 have hB0 : Below w.heap.size w ((w.alloc (.cells #[.int .i64 p, .int .i64 a, .int .i64 b] 71)).alloc (.cells #[.int .i64 0, .int .i64 0, .int .i64 0] 71)) := ((Below.refl _ _).alloc (Nat.le_refl _) _).alloc (by simp) _
 have hmk := run_mkBools p (by omega)
 have hp0 : 0 < p := by omega
 have HD := Hi (And.intro hd0 hd1)
 clear hok hpr hd0 hd1
 go_enter func349, ntmps349
 go_wp2_with fail
 generalize (w.alloc _).alloc _ = W at *
 refine (HV.out _).mono ?_
 rintro e w1 ⟨rfl, hB1⟩
 have qc1 := q1.kept hB1
 have qd1 := q2.kept hB1
 have hBw := hB0.trans (hB1.mono hB0.size)
 obtain ⟨c0, c1, c2, _, _, _⟩ := qc1.six
 have hlc := qc1.lt
 have hld := qd1.lt
 have qs := Bk.new w1 4 (boolA (List.replicate p false))
 have hB2 := hBw.alloc hBw.size (.cells (boolA (List.replicate p false)) 4)
 have qc2 := qc1.alloc (.cells (boolA (List.replicate p false)) 4)
 have qd2 := qd1.alloc (.cells (boolA (List.replicate p false)) 4)
 have HS := Hi (And.intro qs (And.intro hB2 (And.intro qc2 qd2)))
 clear q1 q2 qc1 qd1 hB0 hB1 HV qs hB2 qc2 qd2
 go_wp2_with fail
 clear hmk c0 c1 c2
 generalize w1.alloc _ = W1 at *
 have hbs : w.heap.size + 1 < w1.heap.size := hld
 generalize w1.heap.size = bs at *
 go_loopw [5, 16] (fun _ i wr => ∃ k : Nat, i = .int .i64 k ∧ k ≤ p ∧ Bk wr bs 4 (boolA (sqb p k)) ∧ Bk wr w.heap.size 71 #[.int .i64 p, .int .i64 a, .int .i64 b] ∧ Bk wr (w.heap.size + 1) 71 #[.int .i64 0, .int .i64 0, .int .i64 0] ∧ Hid (Below w.heap.size w wr)) (fun _ i _ => p - (intOf i).toNat)
 case atStart => exact ⟨0, rfl, by omega, by rw [sqb_zero]; exact HS.out.1, HS.out.2.2.1, HS.out.2.2.2, Lib.hid HS.out.2.1⟩
 case round =>
  obtain ⟨k, rfl, hk, q, qc, qd, HB⟩ := hrel
  obtain ⟨c0, c1, c2, _, _, _⟩ := qc.six
  have hlc := qc.lt
  by_cases hlt : k < p
  ·have hlt' : decide ((k : Int) < (p : Int)) = true := by simp; omega
   obtain ⟨r, hr⟩ : ∃ r, r = k * k % p := ⟨_, rfl⟩
   have hrp : r < p := by rw [hr]; exact Nat.mod_lt _ hp0
   have HN := Hi (sqb_step (p := p) (i := k) hp0)
   rw [← hr] at HN
   have d0' := q.cell r
   rw [boolA_get (List.getElem?_eq_getElem (by rw [sqb_len]; exact hrp))] at d0'
   have df := q.frozen r
   have dl := q.lt
   have hkk : 0 ≤ (k : Int) * k ∧ (k : Int) * k ≤ 1000000 := by
    have := Nat.mul_le_mul (show k ≤ 1000 by omega) (show k ≤ 1000 by omega)
    constructor
    ·exact Int.mul_nonneg (by omega) (by omega)
    ·have h2 : ((k * k : Nat) : Int) ≤ 1000000 := by omega
     rwa [Int.natCast_mul] at h2
   have hm : ((k : Int) * k) % (p : Int) = (r : Int) := by rw [hr]; push_cast; rfl
   have hpn : ¬ (p : Int) = 0 := by omega
   clear hr
   go_wp2_with fail
   refine ⟨⟨k + 1, by simp, by omega, ?_, qc.far (p := ⟨bs, r, none⟩) _ (by simp; omega), qd.far (p := ⟨bs, r, none⟩) _ (by simp; omega), Hi (HB.out.setCell (p := ⟨bs, r, none⟩) (by simp; omega) _)⟩, by simp [intOf]; omega⟩
   rw [← HN.out, ← boolA_set]
   exact q.put r (.bool true)
  ·have hlt' : decide ((k : Int) < (p : Int)) = false := by simp; omega
   obtain rfl : k = p := by omega
   go_wp2_with fail
   go_loopw [6] (fun d w2 => ∃ m : Nat, 2 ≤ m ∧ m ≤ d0 ∧ d = .int .i64 m ∧ w2 = wr) (fun d _ => d0 - (intOf d).toNat)
   case atStart => exact ⟨2, by omega, by omega, rfl, rfl⟩
   case round =>
    obtain ⟨m, hm2, hm, rfl, rfl⟩ := hrel
    have dl := q.lt
    by_cases hlt2 : m < d0
    ·have d1' := q.cell m
     rw [boolA_get (HD.out.2 m hm2 hlt2)] at d1'
     go_wp2_with fail
     go_roundw
     case rel => exact ⟨m + 1, by omega, by omega, by go_num, trivial⟩
     case measure => simp [intOf]; omega
    ·obtain rfl : m = d0 := by omega
     have d1' := q.cell m
     rw [boolA_get HD.out.1] at d1'
     have hpn : ¬ (k : Int) = 0 := by omega
     have hk0 : ¬ k = 0 := by omega
     obtain ⟨e0, e1, e2, f0, f1, f2⟩ := qd.six
     have hld := qd.lt
     go_wp2_with fail
     refine wp_region_held_drew (S := (fun w' => w'.cell? ⟨w.heap.size, 0, none⟩ = some (.int .i64 k) ∧ w'.cell? ⟨w.heap.size, 1, none⟩ = some (.int .i64 a) ∧ w'.cell? ⟨w.heap.size, 2, none⟩ = some (.int .i64 b))) (by kernel_rfl) ⟨c0, c1, c2⟩ (fun hN => ?_)
     refine tkH 0 rfl ?_; go_simp
     refine tkH 1 rfl ?_; go_simp
     refine tkH 2 rfl ?_; go_simp
     refine tkH 3 rfl ?_; go_simp
     refine tkH 4 rfl ?_; go_simp
     refine tkH 5 rfl ?_; go_simp
     refine tkH 6 rfl ?_; go_simp
     refine tkH 7 rfl ?_; go_simp
     refine tkH 8 rfl ?_; go_simp
     refine tkH 9 rfl ?_; go_simp
     refine tkH 10 rfl ?_; go_simp
     refine tkH 11 rfl ?_; go_simp
     refine tkH 12 rfl ?_; go_simp
     refine tkH 13 rfl ?_; go_simp
     refine tkH 14 rfl ?_; go_simp
     refine tkH 15 rfl ?_; go_simp
     refine tkH 16 rfl ?_; go_simp
     refine tkH 17 rfl ?_; go_simp
     refine tkH 18 rfl ?_; go_simp
     refine tkH 19 rfl ?_; go_simp
     refine tkH 20 rfl ?_; go_simp
     refine tkH 21 rfl ?_; go_simp
     refine tkH 22 rfl ?_; go_simp
     refine tkH 23 rfl ?_; go_simp
     refine tkH 24 rfl ?_; go_simp
     refine tkH 25 rfl ?_; go_simp
     refine tkH 26 rfl ?_; go_simp
     refine tkH 27 rfl ?_; go_simp
     refine tkH 28 rfl ?_; go_simp
     refine tkH 29 rfl ?_; go_simp
     refine tkH 30 rfl ?_; go_simp
     refine tkH 31 rfl ?_; go_simp
     have hne : w.heap.size ≠ w.heap.size + 1 := by omega
     refine rdH 32 rfl (fun K hK => ?_)
     go_simp
     refine hK.out _ _ ⟨(((qc.drew.far (p := ⟨w.heap.size + 1, 0, none⟩) _ hne).far (p := ⟨w.heap.size + 1, 1, none⟩) _ hne).far (p := ⟨w.heap.size + 1, 2, none⟩) _ hne).cell 0, (((qc.drew.far (p := ⟨w.heap.size + 1, 0, none⟩) _ hne).far (p := ⟨w.heap.size + 1, 1, none⟩) _ hne).far (p := ⟨w.heap.size + 1, 2, none⟩) _ hne).cell 1, (((qc.drew.far (p := ⟨w.heap.size + 1, 0, none⟩) _ hne).far (p := ⟨w.heap.size + 1, 1, none⟩) _ hne).far (p := ⟨w.heap.size + 1, 2, none⟩) _ hne).cell 2⟩ (fun hN => ?_)
     clear hK K
     go_simp
     refine tkH 33 rfl ?_; go_simp
     refine Hn ?_
     go_wp2_with fail
     generalize (IntKind.i64.wrap ((IntKind.i64.wrap ((m : Int) * (m : Int))).tmod (k : Int) * (a : Int))).tmod (k : Int) = x2
     generalize (IntKind.i64.wrap ((IntKind.i64.wrap ((IntKind.i64.wrap ((m : Int) * (m : Int))).tmod (k : Int) * (m : Int))).tmod (k : Int) * (b : Int))).tmod (k : Int) = x3
     have q6 := (((qd.put 0 (.int .i64 k)).put 1 (.int .i64 x2)).put 2 (.int .i64 x3)).drew
     have y0 := q6.cell 0
     have y1 := q6.cell 1
     have y2 := q6.cell 2
     have hB6 := (((HB.out.setCell (p := ⟨w.heap.size + 1, 0, none⟩) (by simp) (.int .i64 k)).setCell (p := ⟨w.heap.size + 1, 1, none⟩) (by simp) (.int .i64 x2)).setCell (p := ⟨w.heap.size + 1, 2, none⟩) (by simp) (.int .i64 x3)).drew
     exact bodyPost_ret (v := .tuple #[.agg #[.int .i64 k, .int .i64 x2, .int .i64 x3], .int .i64 0]) (by simp [results, results349, go_sem, y0, y1, y2]) rfl ⟨k, x2, x3, rfl, hB6⟩
theorem nr_all : ((List.range 14).all fun p => !(decide (5 ≤ p) && primeB p) || ((List.range p).any fun d0 => decide (2 ≤ d0) && ((sqb p p)[d0]? == some false) && (List.range d0).all fun d => decide (d < 2) || ((sqb p p)[d]? == some true))) = true := by kernel_rfl
theorem nr_of {p : Nat} (h5 : 5 ≤ p) (hp : p ≤ 13) (hpr : primeB p = true) : ∃ d0, (2 ≤ d0 ∧ d0 < p) ∧ (sqb p p)[d0]? = some false ∧ ∀ d, 2 ≤ d → d < d0 → (sqb p p)[d]? = some true := by
 have h := List.all_eq_true.1 nr_all p (List.mem_range.2 (by omega))
 rw [decide_eq_true h5, hpr] at h
 simp only [Bool.and_self, Bool.not_true, Bool.false_or, List.any_eq_true, Bool.and_eq_true, decide_eq_true_eq, beq_iff_eq, List.mem_range] at h
 obtain ⟨d0, hd, ⟨h2, h3⟩, h4⟩ := h
 refine ⟨d0, ⟨h2, hd⟩, h3, fun d k1 k2 => ?_⟩
 have := List.all_eq_true.1 h4 d (List.mem_range.2 k2)
 rw [decide_eq_false (by omega : ¬ d < 2)] at this
 simpa using this
theorem A_count : AggT 74 8 := agg_of (by kernel_rfl) (by kernel_rfl)
abbrev cntA (p a b n : Nat) : Array Value := #[.int .i64 p, .int .i64 a, .int .i64 b, .int .i64 n, .slice none 0 0, .slice none 0 0, .slice none 0 0, .slice none 0 0]
abbrev zCnt : Array Value := #[.int .i64 0, .int .i64 0, .int .i64 0, .int .i64 0, .slice none 0 0, .slice none 0 0, .slice none 0 0, .slice none 0 0]
theorem run_bCount (p a b n : Nat) (w : World) : (Instr.build 74 #[(0, .agg #[.int .i64 p, .int .i64 a, .int .i64 b]), (1, .int .i64 n)]).run prog w = .ok (.agg (cntA p a b n)) w := by kernel_rfl
theorem pMake_calls (p a b : Nat) (w : World) (hp : 5 ≤ p) (hp' : p ≤ 13) (hpr : primeB p = true) (ha : a < p) (hb : b < p) (hok : okI p a b = true) :
  Calls prog 249 #[cv p a b] w fun e w' => e = .returned (.tuple #[.agg (cntA p a b (numC p a b p)), .int .i64 0]) ∧ Below w.heap.size w w' := by
 obtain ⟨d0, hd, hd0, hd1⟩ := nr_of hp hp' hpr
 have HN := Hi (fun W => Number_calls p a b W hp (by omega) hpr ha hb hok)
 have HT := Hi (fun W => Twist_calls p a b d0 W hp (by omega) hpr ha hb hok hd hd0 hd1)
 clear hd hd0 hd1 hpr hok
 generalize numC p a b p = n at *
 have q1 := (Bk.new w 71 #[.int .i64 p, .int .i64 a, .int .i64 b]).alloc (.cells zCnt 74)
 have q2 := Bk.new (w.alloc (.cells #[.int .i64 p, .int .i64 a, .int .i64 b] 71)) 74 zCnt
 rw [World.size_alloc] at q2
 have hB0 : Below w.heap.size w ((w.alloc (.cells #[.int .i64 p, .int .i64 a, .int .i64 b] 71)).alloc (.cells zCnt 74)) := ((Below.refl _ _).alloc (Nat.le_refl _) _).alloc (by simp) _
 go_enter func249, ntmps249
 go_wp2_with fail
 generalize (w.alloc _).alloc _ = W at *
 obtain ⟨c0, c1, c2, _, _, _⟩ := q1.six
 have l1 := q1.lt
 go_wp2_with fail
 refine (HN.out _).mono ?_
 rintro e w1 ⟨rfl, hB1⟩
 have q1 := q1.kept hB1
 have q2 := q2.kept hB1
 have hB := hB0.trans (hB1.mono hB0.size)
 clear hB0 hB1 c0 c1 c2 l1
 obtain ⟨c0, c1, c2, _, _, _⟩ := q1.six
 have l1 := q1.lt
 go_wp2_with fail
 refine (HT.out _).mono ?_
 rintro e w2 ⟨x1, x2, x3, rfl, hB2⟩
 have q1 := q1.kept hB2
 have q2 := q2.kept hB2
 have hB := hB.trans (hB2.mono hB.size)
 clear hB2 c0 c1 c2 l1
 obtain ⟨c0, c1, c2, _, _, _⟩ := q1.six
 have l1 := q1.lt
 have hbc := run_bCount p a b n
 have h300 : decide ((p : Int) ≤ 300) = true := by simp; omega
 have h0p : decide ((0 : Int) < (p : Int)) = true := by simp; omega
 go_upto_region 6 with (fail)
 have hal := ((Below.refl w2.heap.size w2).alloc (Nat.le_refl _) (.cells #[.int .i64 x1, .int .i64 x2, .int .i64 x3] 71)).alloc (by simp) (.cells (cntA p a b n) 74)
 have q8 := Bk.new (w2.alloc (.cells #[.int .i64 x1, .int .i64 x2, .int .i64 x3] 71)) 74 (cntA p a b n)
 rw [World.size_alloc] at q8
 have q1 := q1.kept hal
 have q2 := q2.kept hal
 have hB := hB.trans (hal.mono hB.size)
 have hs8 : w.heap.size + 1 < w2.heap.size + 1 := by have := hB.size; omega
 clear hal c0 c1 c2 l1
 generalize hWW : (w2.alloc _).alloc _ = W2 at *
 clear hWW
 have c0 := q1.cell 0
 have l1 := q1.lt
 go_wp2_with fail
 clear c0 l1
 go_loopw [32] (fun i wr => i = .int .i64 0 ∧ wr = W2) (fun _ _ => 0)
 case atStart => exact ⟨rfl, rfl⟩
 case round =>
  obtain ⟨rfl, rfl⟩ := hrel
  have hal := (Below.refl wr.heap.size wr).alloc (Nat.le_refl _) (.cells #[.int .i64 0] 3)
  have q1 := q1.kept hal
  have q2 := q2.kept hal
  have q8 := q8.kept hal
  have hB := hB.trans (hal.mono hB.size)
  have c0 := q1.cell 0
  have l1 := q1.lt
  have HC8 := Hi (bk_list (cs := [.int .i64 p, .int .i64 a, .int .i64 b, .int .i64 n, .slice none 0 0, .slice none 0 0, .slice none 0 0, .slice none 0 0]) q8)
  have hX := below_setRow hB (show w.heap.size ≤ w.heap.size + 1 by omega) (cntA p a b n)
  have qX := setRow_bk q2 (cntA p a b n)
  clear hal
  go_wp2_with (first
   | (refine loadW A_count rfl _ rfl (w2.heap.size + 1) 0 rfl [.int .i64 p, .int .i64 a, .int .i64 b, .int .i64 n, .slice none 0 0, .slice none 0 0, .slice none 0 0, .slice none 0 0] rfl HC8.out ?_)
   | (refine storeW A_count rfl _ _ rfl rfl _ rfl (cntA p a b n) rfl rfl _ q2 rfl (by simp [Value.oneCell']) ?_))
  exact bodyPost_ret (v := .tuple #[.agg (cntA p a b n), .int .i64 0]) (res_box2 (i := 2) (j := 3) (T := 74) (by kernel_rfl) A_count rfl rfl qX rfl) rfl ⟨rfl, hX⟩
set_option maxRecDepth 100000
set_option maxHeartbeats 4000000
theorem yBuildCt {a : Act} {o : Oper} {t : TypeId} {i1 : Nat} {y1 : Operand} (ho : o.op = .build t #[(i1, y1)]) {v1 : Value} (h1 : a.eval y1 = v1) {r : Value} {w : World}
  (h : (Instr.build t #[(i1, v1)]).run prog w = .ok r w) : (execOp a.eval o).run prog w = .ok (.value r) w :=
 yBuild ho (by simp [h1]) h
theorem run_bslInt (s : Bool) (A : Option Addr) (k c : Nat) (w : World) : (Instr.buildSlice 59 1 #[(0, .agg #[.bool s, .slice A k c])]).run prog w = .ok (.slice (some ⟨w.heap.size, 0, none⟩) 1 1) (w.alloc (.cells #[.bool s, .slice A k c] 41)) := by kernel_rfl
abbrev certA (p a b n : Nat) : Array Value := #[.slice none 0 0, .bool false, .slice none 0 0, .slice none 0 0, .slice none 0 0, .int .i64 0, .bool false, .slice none 0 0, .slice none 0 0, .slice none 0 0, .int .i64 p, .int .i64 a, .int .i64 b, .int .i64 n, .slice none 0 0, .slice none 0 0, .slice none 0 0, .slice none 0 0, .bool false, .slice none 0 0, .bool false, .slice none 0 0, .slice none 0 0, .slice none 0 0, .slice none 0 0, .slice none 0 0, .slice none 0 0, .slice none 0 0]
abbrev cEntA (p a b n : Nat) (A : Option Addr) (k c : Nat) : Array Value := #[.string ⟨#[]⟩, .slice A k c, .slice none 0 0, .bool false, .slice none 0 0, .slice none 0 0, .slice none 0 0, .int .i64 0, .bool false, .slice none 0 0, .slice none 0 0, .slice none 0 0, .int .i64 p, .int .i64 a, .int .i64 b, .int .i64 n, .slice none 0 0, .slice none 0 0, .slice none 0 0, .slice none 0 0, .bool false, .slice none 0 0, .bool false, .slice none 0 0, .slice none 0 0, .slice none 0 0, .slice none 0 0, .slice none 0 0, .slice none 0 0, .slice none 0 0, .slice none 0 0]
theorem run_bCert (p a b n : Nat) (w : World) : (Instr.build 83 #[(4, .agg (cntA p a b n))]).run prog w = .ok (.agg (certA p a b n)) w := by kernel_rfl
theorem run_bEntC (p a b n : Nat) (A : Option Addr) (k c : Nat) (w : World) : (Instr.build 85 #[(1, .slice A k c), (2, .agg (certA p a b n))]).run prog w = .ok (.agg (cEntA p a b n A k c)) w := by kernel_rfl
theorem cEnt_M {W : World} {p a b n g : Nat} {m : Value} {z : Nat} (hz : z < 30000) (q : Bk W g 41 #[.bool false, m]) (hn : NV W m z) : EnM W (cEntA p a b n (some ⟨g, 0, none⟩) 1 1).toList ([], false, z) :=
 ⟨rfl, by simp [Value.oneCell'], rfl, rfl, by simp, (fun h => by cases h), hz, g, 1, m, rfl, by omega, q, hn⟩
theorem curM (p : Nat) (h : TF p) (a b : Nat) (ha : a < p) (hb : b < p) (hok : okI p a b = true) (hn : numC p a b p < 100) : MakesM 248 [(false, p), (false, a), (false, b)] false (numC p a b p) := by
 intro g cap W hI
 have hp5 := h.lo
 have hp13 := h.hi
 have hV := fun Y => Valid_calls p a b Y hp5 (by omega) h.pr (by omega) (by omega) (by omega) (by omega)
 rw [hok] at hV
 have HF : Hid (∀ X, Below W.heap.size W X → Calls prog 244 #[.slice (some ⟨g, 0, none⟩) 3 cap] X fun e w' => e = .returned (.tuple #[cv p a b, .bool true]) ∧ Below X.heap.size X w') := Lib.hid fun X hX => by
  obtain ⟨m0, m1, m2, h3⟩ := (hI.kept hX).three (by omega) (by omega) (by omega)
  exact fcurveV_calls g p a b m0 m1 m2 cap X h3 true (by omega) (by omega) (by omega) hV
 have HM := Hi (fun X => pMake_calls p a b X hp5 hp13 h.pr ha hb hok)
 have q2 := Bk.new W 85 zEntA
 have hB0 := (Below.refl W.heap.size W).alloc (Nat.le_refl _) (.cells zEntA 85)
 generalize numC p a b p = n at *
 clear hI hV h hok
 obtain ⟨cnt, hcnt⟩ : ∃ x, x = cntA p a b n := ⟨_, rfl⟩
 obtain ⟨crt, hcrt⟩ : ∃ x, x = certA p a b n := ⟨_, rfl⟩
 obtain ⟨ent, hent⟩ : ∃ f : Option Addr → Array Value, f = fun A => cEntA p a b n A 1 1 := ⟨_, rfl⟩
 have hcr : ∀ w', (Instr.build 83 #[(4, .agg cnt)]).run prog w' = .ok (.agg crt) w' := fun w' => by rw [hcnt, hcrt]; exact run_bCert p a b n w'
 have hen : ∀ A w', (Instr.build 85 #[(1, .slice A 1 1), (2, .agg crt)]).run prog w' = .ok (.agg (ent A)) w' := fun A w' => by rw [hent, hcrt]; exact run_bEntC p a b n A 1 1 w'
 have he31 : ∀ A, (ent A).size = 31 := fun A => by rw [hent]; rfl
 have he1 : ∀ A, ∀ u ∈ (ent A).toList, u.oneCell' = true := fun A => by rw [hent]; simp [Value.oneCell']
 have hc8 : cnt.size = 8 := by rw [hcnt]; rfl
 have hc1 : ∀ u ∈ cnt.toList, u.oneCell' = true := by rw [hcnt]; simp [Value.oneCell']
 have hc3 : cnt[3]? = some (.int .i64 n) := by rw [hcnt]; rfl
 have hEMo : ∀ (X : World) (gv : Nat) (m : Value), Bk X gv 41 #[.bool false, m] → NV X m n → EnM X (ent (some ⟨gv, 0, none⟩)).toList ([], false, n) := fun X gv m q1 q2 => by rw [hent]; exact cEnt_M (by omega) q1 q2
 rw [← hcnt] at HM
 have Hcr := Lib.hid hcr
 have Hen := Lib.hid hen
 have HEM := Lib.hid hEMo
 clear hcr hen hEMo hcnt hcrt hent
 go_enter func248, ntmps248
 go_wp2_with fail
 refine (HF.out _ hB0).mono ?_
 rintro e w1 ⟨rfl, hB1⟩
 have q2 := q2.kept hB1
 have hB := hB0.trans (hB1.mono hB0.size)
 clear hB0 hB1
 go_wp2_with fail
 refine (HM.out _).mono ?_
 rintro e w2 ⟨rfl, hB2⟩
 have hal0 := (Below.refl w1.heap.size w1).alloc (Nat.le_refl _) (.cells #[.int .i64 p, .int .i64 a, .int .i64 b] 71)
 go_upto_region 3 with (refine kStore A_count rfl _ _ rfl rfl rfl cnt rfl hc8 rfl hc1 ?_; intro W2 q6 hX2)
 have q2 := ((q2.kept hal0).kept hB2).kept hX2
 have hBc := hal0.trans ((hB2.trans (hX2.mono hB2.size)).mono hal0.size)
 have hB := hB.trans (hBc.mono hB.size)
 have HE : Hid (∀ X, Calls prog 194 #[.int .i64 n] X (RetInt X false (wordsOf n))) := Lib.hid fun X => eof_calls n X (by omega)
 clear hX2 hB2 hal0 hBc
 generalize w2.heap.size = b6 at *
 have c3 : W2.cell? ⟨b6, 3, none⟩ = some (.int .i64 n) := by rw [q6.cell]; exact hc3
 have l6 := q6.lt
 refine wp_region_held_drew (S := (fun w' => ∀ o, w'.cell? ⟨b6, o, none⟩ = W2.cell? ⟨b6, o, none⟩)) (by kernel_rfl) (fun _ => rfl) (fun hN => ?_)
 refine tkH 0 rfl ?_; go_simp
 refine tkH 1 rfl ?_; go_simp
 refine tkH 4 (v := .agg cnt) rfl ?_ (fun w' hSw => run_loadW A_count _ rfl b6 0 rfl cnt.toList (by simpa using hc8) (fun j u hu => by rw [hSw, q6.cell, Nat.zero_add]; simpa using hu)); go_simp
 refine tkH 5 (v := .agg crt) rfl ?_ (fun w' _ => yBuildCt rfl rfl (Hcr.out w')); go_simp
 refine tkH 7 rfl ?_; go_simp
 refine tkH 8 rfl ?_; go_simp
 have q2 := q2.drew
 have q6 := q6.drew
 have hB := hB.drew
 have hsW : W2.heap.size = W2.drew.heap.size := rfl
 generalize W2.drew = w3 at *
 have l6w := q6.lt
 refine rdH 2 rfl (fun K hK => ?_)
 go_simp
 refine (HE.out _).mono ?_
 rintro e w4 ⟨m, rfl, hB4, h4⟩
 have h4 : NV w4 m n := h4
 obtain ⟨Am, cm, rfl⟩ := h4.slice
 have q2 := q2.kept hB4
 have q6 := q6.kept hB4
 have hB := hB.trans (hB4.mono hB.size)
 refine hK.out _ _ (fun o => by rw [hB4.cell (p := ⟨b6, o, none⟩) l6w]; exact hN o) (fun hN => ?_)
 have l6v := q6.lt
 clear hK K hB4
 go_simp
 refine rdH 3 rfl (fun K hK => ?_)
 refine sBsl1 (t := 59) (n := 1) (v1 := .agg #[.bool false, .slice Am (wordsOf n).length cm]) rfl rfl rfl (run_bslInt _ _ _ _ w4) ?_
 have hal := (Below.refl w4.heap.size w4).alloc (Nat.le_refl _) (.cells #[.bool false, .slice Am (wordsOf n).length cm] 41)
 have qv := Bk.new w4 41 #[.bool false, .slice Am (wordsOf n).length cm]
 have h4 := h4.kept hal
 have q2 := q2.kept hal
 have q6 := q6.kept hal
 have hB := hB.trans (hal.mono hB.size)
 refine hK.out _ _ (fun o => by rw [hal.cell (p := ⟨b6, o, none⟩) l6v]; exact hN o) (fun hN => ?_)
 clear hK K hal
 go_simp
 generalize w4.alloc _ = w5 at *
 generalize w4.heap.size = gv at *
 refine tkH 6 (v := .agg (ent (some ⟨gv, 0, none⟩))) rfl ?_ (fun w' _ => yBuild2 rfl rfl rfl (Hen.out _ w')); go_simp
 have hne : b6 ≠ W.heap.size := Bk.ne q6 q2 (by decide)
 have qX := setRow_bk q2 (ent (some ⟨gv, 0, none⟩))
 have hX := below_setRow hB (Nat.le_refl _) (ent (some ⟨gv, 0, none⟩))
 have tX := trP_row2 q2 (ent (some ⟨gv, 0, none⟩))
 have kX := setRow_far q6 hne (ent (some ⟨gv, 0, none⟩))
 have hEM := HEM.out _ _ _ (tX _ _ _ (by decide) qv) (tX.nv (by decide) h4)
 refine rdH 9 rfl (fun K hK => ?_)
 refine sStoreW A_entry rfl _ _ rfl rfl W.heap.size rfl (ent (some ⟨gv, 0, none⟩)) rfl (he31 _) _ q2 rfl (he1 _) ?_
 refine hK.out _ _ (fun o => by rw [kX.cell, ← q6.cell]; exact hN o) (fun hN => ?_)
 clear hK K
 generalize w5.setRow W.heap.size (ent (some ⟨gv, 0, none⟩)) = w6 at *
 go_simp
 refine tkH 10 rfl ?_; go_simp
 refine Hn ?_
 go_wp2_with fail
 exact bodyPost_ret (v := .tuple #[.agg (ent (some ⟨gv, 0, none⟩)), .bool true]) (res_box2 (i := 2) (j := 3) (T := 85) (by kernel_rfl) A_entry rfl rfl qX (he31 _)) rfl ⟨(ent (some ⟨gv, 0, none⟩)).toList, by simp, hEM, hX⟩
end Go.Proofs.YtpmklccphbklaaaGreatDoor
