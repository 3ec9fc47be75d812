/- The reference's curves: whether three numbers are one; its number of p. -/
import Derived.Test.YthjilnnmahcnpaaGreatDoorWMQ
import Derived.Test.YthjilnnmahcnpaaGreatDoorWNA
namespace Go.Proofs.YthjilnnmahcnpaaGreatDoor
open Go.RowKit Go.Shelf Go.Proofs.Tryz
set_option maxHeartbeats 4000000
theorem RValid_any (p a b : Nat) (w : World) (hp : p ≤ 4096) (ha : a ≤ 4096) (hb : b ≤ 4096) :
  Calls prog 55 #[cv p a b] w fun e w' => e = .returned (.bool (okV p a b)) ∧ Below w.heap.size w w' := by
 have q := Bk.new w 57 #[.int .i64 p, .int .i64 a, .int .i64 b]
 have hB0 := (Below.refl w.heap.size w).alloc (Nat.le_refl _) (.cells #[.int .i64 p, .int .i64 a, .int .i64 b] 57)
 have hl := q.lt
 obtain ⟨c0, c1, c2, _, _, _⟩ := q.six
 by_cases h5 : 5 ≤ p
 ·have hd1 : decide ((p : Int) < 5) = false := by simp; omega
  by_cases h4 : p < 4096
  ·have hd2 : decide ((4095 : Int) < (p : Int)) = false := by simp; omega
   have HP := Hi (fun W => Prime_calls p W (by omega))
   cases hpr : primeB p with
   | false =>
    rw [hpr] at HP
    rw [show okV p a b = false by simp [okV, hpr]]
    clear hpr
    go_enter func55, ntmps55
    go_wp2_with fail
    refine (HP.out _).mono ?_
    rintro e w' ⟨rfl, rfl⟩
    go_wp2_with fail
    go_ret
    exact ⟨rfl, hB0⟩
   | true =>
    rw [hpr] at HP
    have ha0 : decide ((a : Int) < 0) = false := by simp
    have hb0 : decide ((b : Int) < 0) = false := by simp
    by_cases h1 : a < p
    ·have hd3 : decide ((p : Int) ≤ (a : Int)) = false := by simp; omega
     by_cases h2 : b < p
     ·have hd4 : decide ((p : Int) ≤ (b : Int)) = false := by simp; omega
      have HS := Hi (fun W => side21_calls p a b W (by omega) (by omega) (by omega) (by omega) (by omega) (by omega))
      have HE := Hi (show okV p a b = (sideI p a b != 0) by rw [show okV p a b = okI p a b by simp [okV, hpr, h5, h4, h1, h2]]; rfl)
      generalize sideI p a b = s at *
      generalize okV p a b = ok at *
      clear hpr
      go_enter func55, ntmps55
      go_wp2_with fail
      refine (HP.out _).mono ?_
      rintro e w' ⟨rfl, rfl⟩
      go_wp2_with fail
      refine (HS.out _).mono ?_
      rintro e w1 ⟨rfl, hB⟩
      go_wp2_with fail
      go_ret
      exact ⟨ret_bool (by rw [HE.out]), hB0.trans (hB.mono hB0.size)⟩
     ·have hd4 : decide ((p : Int) ≤ (b : Int)) = true := by simp; omega
      rw [show okV p a b = false by simp [okV, h2]]
      clear hpr
      go_enter func55, ntmps55
      go_wp2_with fail
      refine (HP.out _).mono ?_
      rintro e w' ⟨rfl, rfl⟩
      go_wp2_with fail
      go_ret
      exact ⟨rfl, hB0⟩
    ·have hd3 : decide ((p : Int) ≤ (a : Int)) = true := by simp; omega
     rw [show okV p a b = false by simp [okV, h1]]
     clear hpr
     go_enter func55, ntmps55
     go_wp2_with fail
     refine (HP.out _).mono ?_
     rintro e w' ⟨rfl, rfl⟩
     go_wp2_with fail
     go_ret
     exact ⟨rfl, hB0⟩
  ·have hd2 : decide ((4095 : Int) < (p : Int)) = true := by simp; omega
   rw [show okV p a b = false by simp [okV, h4]]
   go_enter func55, ntmps55
   go_wp2_with fail
   go_ret
   exact ⟨rfl, hB0⟩
 ·have hd1 : decide ((p : Int) < 5) = true := by simp; omega
  rw [show okV p a b = false by simp [okV, h5]]
  go_enter func55, ntmps55
  go_wp2_with fail
  go_ret
  exact ⟨rfl, hB0⟩
theorem right_same (p a b x : Nat) : (x * x % p * x + a * x + b) % p = ((x * x + a) % p * x + b) % p := by
 have e1 : (x * x % p * x) % p = (x * x * x) % p := by rw [Nat.mul_mod, Nat.mod_mod, ← Nat.mul_mod]
 have e2 : ((x * x + a) % p * x) % p = ((x * x + a) * x) % p := by rw [Nat.mul_mod, Nat.mod_mod, ← Nat.mul_mod]
 rw [Nat.add_assoc, ← Nat.mod_add_mod, e1, Nat.mod_add_mod, ← Nat.mod_add_mod ((x * x + a) % p * x), e2, Nat.mod_add_mod, Nat.add_mul, Nat.add_assoc]
theorem RRight_calls (p a b x : Nat) (w : World) (hp : 1 ≤ p) (hp' : p ≤ 4096) (ha : a < p) (hb : b < p) (hx : x < p) :
  Calls prog 301 #[cv p a b, .int .i64 x] w fun e w' => e = .returned (.int .i64 ((((x * x + a) % p * x + b) % p : Nat) : Int)) ∧ Below w.heap.size w w' := by
 have q := Bk.new w 57 #[.int .i64 p, .int .i64 a, .int .i64 b]
 have hB0 := (Below.refl w.heap.size w).alloc (Nat.le_refl _) (.cells #[.int .i64 p, .int .i64 a, .int .i64 b] 57)
 have hl := q.lt
 obtain ⟨c0, c1, c2, _, _, _⟩ := q.six
 have hxx : x * x ≤ 4096 * 4096 := Nat.mul_le_mul (by omega) (by omega)
 have hr := Nat.mod_lt (x * x) (show 0 < p by omega)
 have h3 : x * x % p * x ≤ 4096 * 4096 := Nat.mul_le_mul (by omega) (by omega)
 have h4 : a * x ≤ 4096 * 4096 := Nat.mul_le_mul (by omega) (by omega)
 have HE := Hi (right_same p a b x)
 obtain ⟨r, hr1⟩ : ∃ r, r = x * x % p := ⟨_, rfl⟩
 obtain ⟨T, hT⟩ : ∃ T, T = r * x + a * x + b := ⟨_, rfl⟩
 rw [← hr1] at h3 HE
 rw [← hT] at HE
 have hw1 : IntKind.i64.wrap ((x : Int) * (x : Int)) = (x : Int) * (x : Int) := IntWalk.i64_in _ (by
  have : ((x * x : Nat) : Int) ≤ 16777216 := by omega
  rw [Int.natCast_mul] at this
  exact ⟨by have := Int.mul_nonneg (show 0 ≤ (x : Int) by omega) (show 0 ≤ (x : Int) by omega); omega, by omega⟩)
 have hm : ((x : Int) * (x : Int)).tmod (p : Int) = (r : Int) := by rw [hr1, ← Int.natCast_mul, Int.tmod_eq_emod_of_nonneg (by omega)]; push_cast; rfl
 have hwr : IntKind.i64.wrap (r : Int) = (r : Int) := IntWalk.i64_in _ (by omega)
 have n1 : ((r * x : Nat) : Int) ≤ 16777216 := by omega
 have n2 : ((a * x : Nat) : Int) ≤ 16777216 := by omega
 have n3 : ((r * x : Nat) : Int) ≥ 0 ∧ ((a * x : Nat) : Int) ≥ 0 := ⟨by omega, by omega⟩
 have hTI : (T : Int) = (r : Int) * x + (a : Int) * x + b := by rw [hT]; push_cast; rfl
 rw [Int.natCast_mul] at n1 n2
 rw [Int.natCast_mul, Int.natCast_mul] at n3
 have hw2 : IntKind.i64.wrap ((r : Int) * (x : Int)) = (r : Int) * (x : Int) := IntWalk.i64_in _ (by omega)
 have hw3 : IntKind.i64.wrap ((a : Int) * (x : Int)) = (a : Int) * (x : Int) := IntWalk.i64_in _ (by omega)
 have hw4 : IntKind.i64.wrap ((r : Int) * (x : Int) + (a : Int) * (x : Int)) = (r : Int) * (x : Int) + (a : Int) * (x : Int) := IntWalk.i64_in _ (by omega)
 have hw5 : IntKind.i64.wrap ((r : Int) * (x : Int) + (a : Int) * (x : Int) + (b : Int)) = (T : Int) := by rw [hTI]; exact IntWalk.i64_in _ (by omega)
 have hpn : ¬ (p : Int) = 0 := by omega
 have hpn' : ¬ p = 0 := by omega
 have hpn2 : (p == 0) = false := by simp; omega
 have HM := Hi (fun W => Mod_calls (T : Nat) (p : Nat) W (by omega) (by omega) (by omega) (by omega))
 rw [← Int.natCast_emod, HE.out] at HM
 clear hxx hr h3 h4 hr1 hT n1 n2 n3 hTI
 go_enter func301, ntmps301
 go_wp2_with fail
 generalize w.alloc _ = W at *
 go_region_held3 (fun w' => (∀ b o, b < W.heap.size → w'.cell? ⟨b, o, none⟩ = W.cell? ⟨b, o, none⟩) ∧ Below W.heap.size W w')
  (first | exact sk_start _ | exact sk_step (by assumption) (by assumption))
  ((go_at_call 127; (with_reducible refine (HM.out _).mono ?_); rintro e w' ⟨rfl, rfl⟩))
 rename_i hH
 have hBq := hH.2
 go_wp2_with fail
 go_ret
 exact ⟨rfl, hB0.trans (hBq.mono hB0.size)⟩
set_option maxRecDepth 100000
set_option maxHeartbeats 2000000
theorem RCount_calls (p a b : Nat) (w : World) (hp : 5 ≤ p) (hp' : p ≤ 4096) (ha : a < p) (hb : b < p) :
  Calls prog 220 #[cv p a b] w fun e w' => e = .returned (.int .i64 (numC p a b p : Nat)) ∧ Below w.heap.size w w' := by
 have qc := Bk.new w 57 #[.int .i64 p, .int .i64 a, .int .i64 b]
 have hB0 := (Below.refl w.heap.size w).alloc (Nat.le_refl _) (.cells #[.int .i64 p, .int .i64 a, .int .i64 b] 57)
 have hmk := run_mkInts p (by omega)
 have hp0 : 0 < p := by omega
 obtain ⟨c0, c1, c2, _, _, _⟩ := qc.six
 have hlc := qc.lt
 have q1 := Bk.new (w.alloc (.cells #[.int .i64 p, .int .i64 a, .int .i64 b] 57)) 3 (intA (List.replicate p 0))
 have hB2 := hB0.alloc hB0.size (.cells (intA (List.replicate p 0)) 3)
 have qc2 := qc.alloc (.cells (intA (List.replicate p 0)) 3)
 have HS := Hi (And.intro q1 (And.intro hB2 qc2))
 clear qc hB0 q1 hB2 qc2
 go_enter func220, ntmps220
 go_wp2_with fail
 clear hmk c0 c1 c2
 generalize (w.alloc _).alloc _ = W1 at *
 have hbs : w.heap.size < w.heap.size + 1 := by omega
 simp only [World.size_alloc] at HS
 go_loopw [4] (fun i wr => ∃ k : Nat, i = .int .i64 k ∧ k ≤ p ∧ Bk wr (w.heap.size + 1) 3 (intA (sqs p k)) ∧ Bk wr w.heap.size 57 #[.int .i64 p, .int .i64 a, .int .i64 b] ∧ Hid (Below w.heap.size w wr)) (fun i _ => p - (intOf i).toNat)
 case atStart => exact ⟨0, rfl, by omega, by rw [sqs_zero]; exact HS.out.1, HS.out.2.2, Lib.hid HS.out.2.1⟩
 case round =>
  obtain ⟨k, rfl, hk, q, qc, HB⟩ := hrel
  obtain ⟨c0, c1, c2, _, _, _⟩ := qc.six
  have hlc := qc.lt
  by_cases hlt : k < p
  ·have hlt' : decide ((k : Int) < (p : Int)) = true := by simp; omega
   obtain ⟨r, hr⟩ : ∃ r, r = k * k % p := ⟨_, rfl⟩
   have hrp : r < p := by rw [hr]; exact Nat.mod_lt _ hp0
   obtain ⟨c, hc⟩ : ∃ c, (sqs p k)[r]? = some c := ⟨_, List.getElem?_eq_getElem (by rw [sqs_len]; exact hrp)⟩
   have hck := sqs_le hc
   have HN := Hi (sqs_step hp0 (by rw [← hr]; exact hc))
   rw [← hr] at HN
   have d0 := q.cell r
   rw [intA_get hc] at d0
   have df := q.frozen r
   have dl := q.lt
   have hkk : 0 ≤ (k : Int) * k ∧ (k : Int) * k ≤ 16777216 := by
    have := Nat.mul_le_mul (show k ≤ 4096 by omega) (show k ≤ 4096 by omega)
    constructor
    ·exact Int.mul_nonneg (by omega) (by omega)
    ·have h2 : ((k * k : Nat) : Int) ≤ 16777216 := by omega
     rwa [Int.natCast_mul] at h2
   have hm : ((k : Int) * k) % (p : Int) = (r : Int) := by rw [hr]; push_cast; rfl
   have hpn : ¬ (p : Int) = 0 := by omega
   have hv : vi c = .int .i64 (c : Int) := rfl
   rw [hv] at d0
   clear hc hr
   go_wp2_with fail
   refine ⟨⟨k + 1, by simp, by omega, ?_, qc.far (p := ⟨w.heap.size + 1, r, none⟩) _ (by simp), Hi (HB.out.setCell (p := ⟨w.heap.size + 1, r, none⟩) (by simp) _)⟩, by simp [intOf]; omega⟩
   rw [← HN.out, ← intA_set]
   exact q.put r (vi (c + 1))
  ·have hlt' : decide ((k : Int) < (p : Int)) = false := by simp; omega
   have hkp : p = k := by omega
   subst hkp
   go_upto_region 8 with (fail)
   go_loopw [5, 6] (fun tv iv wi => ∃ j : Nat, iv = .int .i64 j ∧ j ≤ p ∧ tv = .int .i64 (numC p a b j : Nat) ∧ Bk wi (w.heap.size + 1) 3 (intA (sqs p p)) ∧ Bk wi w.heap.size 57 #[.int .i64 p, .int .i64 a, .int .i64 b] ∧ Hid (Below w.heap.size w wi)) (fun _ iv _ => p - (intOf iv).toNat)
   case atStart => exact ⟨0, rfl, by omega, rfl, q, qc, HB⟩
   case round =>
    obtain ⟨j, rfl, hj, rfl, q2, qc2, HB2⟩ := hrel
    obtain ⟨c0, c1, c2, _, _, _⟩ := qc2.six
    have hlc2 := qc2.lt
    have HLe := Hi (numC_le p a b j)
    by_cases hjt : j < p
    ·have hjt' : decide ((j : Int) < (p : Int)) = true := by simp; omega
     have HR := Hi (fun W => RRight_calls p a b j W (by omega) hp' ha hb hjt)
     obtain ⟨r2, hr2⟩ : ∃ r, r = ((j * j + a) % p * j + b) % p := ⟨_, rfl⟩
     have hr2p : r2 < p := by rw [hr2]; exact Nat.mod_lt _ hp0
     obtain ⟨c, hc⟩ : ∃ c, (sqs p p)[r2]? = some c := ⟨_, List.getElem?_eq_getElem (by rw [sqs_len]; exact hr2p)⟩
     have hck := sqs_le hc
     have HN := Hi (show numC p a b (j + 1) = numC p a b j + c by
      rw [numC, ← hr2, List.getD_eq_getElem?_getD, hc]; rfl)
     rw [← hr2] at HR
     have hnl : numC p a b j ≤ 2000000000 := by
      have h1 := HLe.out
      have h2 := Nat.mul_le_mul (show j ≤ 4096 by omega) hp'
      omega
     clear hr2
     generalize numC p a b j = N at *
     go_wp2_with fail
     refine (HR.out _).mono ?_
     rintro e wq ⟨rfl, hBq⟩
     have q3 := q2.kept hBq
     have qc3 := qc2.kept hBq
     have d0 := q3.cell r2
     rw [intA_get hc, show vi c = .int .i64 (c : Int) from rfl] at d0
     have dl := q3.lt
     go_wp2_with fail
     refine ⟨⟨j + 1, by simp, by omega, by rw [HN.out]; rfl, q3, qc3, Hi (HB2.out.trans (hBq.mono HB2.out.size))⟩, by simp [intOf]; omega⟩
    ·have hjt' : decide ((j : Int) < (p : Int)) = false := by simp; omega
     have hjp : p = j := by omega
     subst hjp
     go_wp2_with fail
     go_ret
     exact ⟨rfl, HB2.out⟩
theorem RTrace_calls (p a b : Nat) (w : World) (hok : okV p a b = true) :
  Calls prog 126 #[cv p a b] w fun e w' => e = .returned (.tuple #[.int .i64 ((p : Int) + 1 - (numC p a b p : Nat)), .int .i64 0]) ∧ Below w.heap.size w w' := by
 obtain ⟨h1, h2, _, h3, h4, _⟩ := okV_iff.1 hok
 have q0 := Bk.new w 57 #[.int .i64 p, .int .i64 a, .int .i64 b]
 have hB0 := (Below.refl w.heap.size w).alloc (Nat.le_refl _) (.cells #[.int .i64 p, .int .i64 a, .int .i64 b] 57)
 obtain ⟨c0, c1, c2, _, _, _⟩ := q0.six
 have hl := q0.lt
 have HV := Hi (fun W => RValid_any p a b W (by omega) (by omega) (by omega))
 rw [hok] at HV
 have HN := Hi (fun W => RCount_calls p a b W h1 (by omega) h3 h4)
 have hnl := numC_le p a b p
 have hpp := Nat.mul_le_mul (show p ≤ 4096 by omega) (show p ≤ 4096 by omega)
 have hnn : numC p a b p ≤ 20000000 := by omega
 clear hok hnl hpp
 generalize numC p a b p = N at *
 have e1 : IntKind.i64.wrap ((p : Int) + 1) = (p : Int) + 1 := IntWalk.i64_in _ (by omega)
 have e2 : IntKind.i64.wrap ((p : Int) + 1 - (N : Int)) = (p : Int) + 1 - (N : Int) := IntWalk.i64_in _ (by omega)
 go_enter func126, ntmps126
 go_wp2_with fail
 refine (HV.out _).mono ?_
 rintro e w1 ⟨rfl, hB1⟩
 have q1 := q0.kept hB1
 have hB := hB0.trans (hB1.mono hB0.size)
 clear c0 c1 c2
 obtain ⟨c0, c1, c2, _, _, _⟩ := q1.six
 have hl1 := q1.lt
 go_wp2_with fail
 go_region_held3 (fun w' => (∀ b o, b < w1.heap.size → w'.cell? ⟨b, o, none⟩ = w1.cell? ⟨b, o, none⟩) ∧ Below w1.heap.size w1 w')
  (first | exact sk_start _ | exact sk_step (by assumption) (by assumption))
  ((go_at_call 220; (with_reducible refine (HN.out _).mono ?_); rintro e w' ⟨rfl, hBc⟩))
 rename_i hH
 have hBq := hH.2
 go_wp2_with fail
 exact bodyPost_ret (v := .tuple #[.int .i64 ((p : Int) + 1 - (N : Nat)), .int .i64 0]) (by simp [results, results126, go_sem]) rfl ⟨rfl, hB.trans (hBq.mono hB.size)⟩
set_option maxHeartbeats 2000000
theorem RWord_calls (ws : List Nat) (i : Nat) (m : Value) (w : World) (h : Rd w 1 m ws.length (ws.map wd)) (hl : ws.length ≤ 1000000) (hi : i ≤ 1000000) (hw : ∀ d ∈ ws, d < 4294967296) :
  Calls prog 296 #[m, .int .i64 i] w fun e w' => e = .returned (.int .u64 ((ws.getD i 0 : Nat) : Int)) ∧ Below w.heap.size w w' := by
 obtain ⟨_, A, c, rfl, _, hA⟩ := h
 have n1 : decide ((i : Int) < 0) = false := by simp
 by_cases hlt : i < ws.length
 ·obtain ⟨b, o, rfl, hb, hc⟩ := hA (by omega)
  have hx : ws[i]? = some (ws[i]'hlt) := List.getElem?_eq_getElem hlt
  have hd := hc i (wd (ws[i]'hlt)) (by simp [hx])
  have hv : ws.getD i 0 = ws[i]'hlt := by rw [List.getD_eq_getElem?_getD, hx]; rfl
  rw [hv]
  have hwx := hw (ws[i]'hlt) (List.getElem_mem hlt)
  clear hx hv hA hc hw
  generalize ws[i]'hlt = x at *
  have hd0 : (0 : Int) ≤ (i : Int) := by omega
  have hd1 : (i : Int) < (ws.length : Int) := by omega
  have n2 : decide ((ws.length : Int) ≤ (i : Int)) = false := by simp; omega
  have n3 : IntKind.u64.wrap (x : Int) = (x : Int) := IntWalk.u64_in _ (by omega)
  generalize ws.length = n at *
  go_enter func296, ntmps296
  go_wp2_with fail
  go_ret
  exact ⟨rfl, by repeat (first | exact Below.refl _ _ | refine below_dN ?_ _)⟩
 ·have hv : ws.getD i 0 = 0 := by rw [List.getD_eq_getElem?_getD, List.getElem?_eq_none (by omega)]; rfl
  rw [hv]
  have n2 : decide ((ws.length : Int) ≤ (i : Int)) = true := by simp; omega
  generalize ws.length = n at *
  go_enter func296, ntmps296
  go_wp2_with fail
  go_ret
  exact ⟨rfl, by repeat (first | exact Below.refl _ _ | refine below_dN ?_ _)⟩
theorem Cw.words {ws : List Nat} {x : Nat} (h : Cw ws x) (hx : x < 4294967296) : ws.getD 0 0 = x ∧ ws.getD 1 0 = 0 ∧ ws.length ≤ 1 := by
 have hl := h.len (n := 1) (by simpa using hx)
 have hv := h.val
 rcases ws with _ | ⟨a, _ | ⟨b, l⟩⟩
 ·exact ⟨by simpa [vW] using hv, rfl, by simp⟩
 ·exact ⟨by simpa [vW] using hv, rfl, by simp⟩
 ·simp at hl
theorem RLow_calls (x : Nat) (m : Value) (w : World) (h : IV w m x) (hx : x < 4294967296) :
  Calls prog 213 #[.agg #[.bool false, m]] w fun e w' => e = .returned (.tuple #[.int .i64 x, .bool true]) ∧ Below w.heap.size w w' := by
 obtain ⟨ws, hc, hr⟩ := h
 obtain ⟨x0, x1, hl⟩ := hc.words hx
 have HW0 := Hi (fun W (h : Below w.heap.size w W) => RWord_calls ws 0 m W ((hr.kept h).rd) (by omega) (by omega) hc.lt)
 have HW1 := Hi (fun W (h : Below w.heap.size w W) => RWord_calls ws 1 m W ((hr.kept h).rd) (by omega) (by omega) hc.lt)
 rw [x0, show ((0 : Nat) : Int) = 0 from rfl] at HW0
 rw [x1, show ((1 : Nat) : Int) = 1 from rfl, show ((0 : Nat) : Int) = 0 from rfl] at HW1
 obtain ⟨A, c, rfl, _, _⟩ := hr.at
 have q0 := Bk.new w 42 #[.bool false, .slice A ws.length c]
 have hB0 := (Below.refl w.heap.size w).alloc (Nat.le_refl _) (.cells #[.bool false, .slice A ws.length c] 42)
 have d0 := q0.cell 0
 have d1 := q0.cell 1
 have hl0 := q0.lt
 have n2 : decide ((2 : Int) < (ws.length : Int)) = false := by simp; omega
 have n3 : bits .or .u64 (x : Int) 0 = (x : Int) := by
  have := bits_or_u64_nat x 0 (by omega) (by omega)
  rw [show ((0 : Nat) : Int) = 0 from rfl] at this
  rw [this]
  simp
 have n4 : decide ((9223372036854775808 : Int) < (x : Int)) = false := by simp; omega
 have n5 : ((x : Int) == 9223372036854775808) = false := by simp; omega
 have n6 : wrap64 (x : Int) = (x : Int) := wrap64_small (by omega) (by omega)
 clear hc hr x0 x1
 generalize ws.length = n at *
 go_enter func213, ntmps213
 go_wp2_with fail
 generalize w.alloc _ = W at *
 go_region_held3 (fun w' => (∀ b o, b < W.heap.size → w'.cell? ⟨b, o, none⟩ = W.cell? ⟨b, o, none⟩) ∧ Below W.heap.size W w')
  (first | exact sk_start _ | exact sk_step (by assumption) (by assumption))
  (first | (go_at_call 296; (with_reducible refine (HW0.out _ (hB0.trans (Below.mono (And.right (by assumption)) hB0.size))).mono ?_); rintro e w' ⟨rfl, hBc⟩) | (go_at_call 296; (with_reducible refine (HW1.out _ (hB0.trans (Below.mono (And.right (by assumption)) hB0.size))).mono ?_); rintro e w' ⟨rfl, hBc⟩))
 rename_i hH
 have hBq := hH.2
 go_wp2_with fail
 exact bodyPost_ret (v := .tuple #[.int .i64 x, .bool true]) (by simp [results, results213, go_sem]) rfl ⟨rfl, hB0.trans (hBq.mono hB0.size)⟩
theorem RSmall_calls (x : Nat) (m : Value) (w : World) (h : IV w m x) (hx : x < 4294967296) :
  Calls prog 118 #[.agg #[.bool false, m]] w fun e w' => e = .returned (.int .i64 x) ∧ Below w.heap.size w w' := by
 have HL := Hi (fun W (hb : Below w.heap.size w W) => RLow_calls x m W (h.kept hb) hx)
 obtain ⟨A, n, c, rfl⟩ := h.slice
 have q0 := Bk.new w 42 #[.bool false, .slice A n c]
 have hB0 := (Below.refl w.heap.size w).alloc (Nat.le_refl _) (.cells #[.bool false, .slice A n c] 42)
 have d0 := q0.cell 0
 have d1 := q0.cell 1
 have hl0 := q0.lt
 have n6 : IntKind.i64.wrap (x : Int) = (x : Int) := IntWalk.i64_in _ (by omega)
 go_enter func118, ntmps118
 go_wp2_with fail
 refine (HL.out _ hB0).mono ?_
 rintro e w1 ⟨rfl, hB1⟩
 go_wp2_with fail
 go_ret
 exact ⟨rfl, hB0.trans (hB1.mono hB0.size)⟩
set_option maxRecDepth 100000
set_option maxHeartbeats 4000000
theorem RcurveV_calls (g p a b : Nat) (m0 m1 m2 : Value) (cap : Nat) (w : World) (h : Ints3 w g p a b m0 m1 m2 cap) (ok : Bool) (hp : p ≤ 4095) (ha : a ≤ 4095) (hb : b ≤ 4095) (hV : ∀ W, Calls prog 55 #[cv p a b] W fun e w' => e = .returned (.bool ok) ∧ Below W.heap.size W w') :
  Calls prog 79 #[.slice (some ⟨g, 0, none⟩) 3 cap] w fun e w' => e = .returned (.tuple #[cv p a b, .bool ok]) ∧ Below w.heap.size w w' := by
 obtain ⟨⟨cur, qg, e0, e1, e2, e3, e4, e5⟩, hcap, n0, n1, n2⟩ := h
 have HW0 := Hi (fun W (hb : Below w.heap.size w W) => RWithin_calls false p 9 false 0 false 4095 m0 W ((n0.kept hb).iv (by omega)) (by simp) (Nat.lt_of_lt_of_le (show p < 4294967296 by omega) (by decide)) (by omega) (by simp) (by simp) (by omega) (by omega))
 have HW1 := Hi (fun W (hb : Below w.heap.size w W) => RWithin_calls false a 9 false 0 false 4095 m1 W ((n1.kept hb).iv (by omega)) (by simp) (Nat.lt_of_lt_of_le (show a < 4294967296 by omega) (by decide)) (by omega) (by simp) (by simp) (by omega) (by omega))
 have HW2 := Hi (fun W (hb : Below w.heap.size w W) => RWithin_calls false b 9 false 0 false 4095 m2 W ((n2.kept hb).iv (by omega)) (by simp) (Nat.lt_of_lt_of_le (show b < 4294967296 by omega) (by decide)) (by omega) (by simp) (by simp) (by omega) (by omega))
 have HL0 := Hi (fun W (hb : Below w.heap.size w W) => RSmall_calls p m0 W ((n0.kept hb).iv (by omega)) (by omega))
 have HL1 := Hi (fun W (hb : Below w.heap.size w W) => RSmall_calls a m1 W ((n1.kept hb).iv (by omega)) (by omega))
 have HL2 := Hi (fun W (hb : Below w.heap.size w W) => RSmall_calls b m2 W ((n2.kept hb).iv (by omega)) (by omega))
 have HV := Lib.hid hV
 have d0 : inI false p 0 4095 = true := by simp [inI, sI]; omega
 have d1 : inI false a 0 4095 = true := by simp [inI, sI]; omega
 have d2 : inI false b 0 4095 = true := by simp [inI, sI]; omega
 simp only [show sI false 0 = 0 from rfl, show sI false 4095 = 4095 from rfl, d0] at HW0
 simp only [show sI false 0 = 0 from rfl, show sI false 4095 = 4095 from rfl, d1] at HW1
 simp only [show sI false 0 = 0 from rfl, show sI false 4095 = 4095 from rfl, d2] at HW2
 obtain ⟨A0, c0, rfl⟩ := n0.slice
 obtain ⟨A1, c1, rfl⟩ := n1.slice
 obtain ⟨A2, c2, rfl⟩ := n2.slice
 generalize (wordsOf p).length = k0 at *
 generalize (wordsOf a).length = k1 at *
 generalize (wordsOf b).length = k2 at *
 have HG := Hi (And.intro qg (And.intro e0 (And.intro e1 (And.intro e2 (And.intro e3 (And.intro e4 e5))))))
 have hgl := qg.lt
 clear n0 n1 n2 d0 d1 d2 qg e0 e1 e2 e3 e4 e5 hp ha hb hV
 have q0 := Bk.new w 57 #[.int .i64 0, .int .i64 0, .int .i64 0]
 have hB0 := (Below.refl w.heap.size w).alloc (Nat.le_refl _) (.cells #[.int .i64 0, .int .i64 0, .int .i64 0] 57)
 have HS := Hi (And.intro q0 hB0)
 clear q0 hB0
 go_enter func79, ntmps79
 go_wp2_with fail
 go_loopw [4] (fun i wr => ∃ k : Nat, k ≤ 3 ∧ i = .int .i64 k ∧ Hid (Bk wr w.heap.size 57 #[.int .i64 0, .int .i64 0, .int .i64 0] ∧ Below w.heap.size w wr)) (fun i _ => 3 - (intOf i).toNat)
 case atStart => exact ⟨0, by omega, rfl, HS⟩
 case round =>
  obtain ⟨k, hk, rfl, HR⟩ := hrel
  have hqg := HG.out.1.kept HR.out.2
  have hgl := hqg.lt
  obtain ⟨_, e0, e1, e2, e3, e4, e5⟩ := HG.out
  rw [← hqg.cell] at e0 e1 e2 e3 e4 e5
  clear hqg
  by_cases h3 : k = 3
  ·subst h3
   go_upto_region 6 with (fail)
   have HB := Lib.hid HR.out.2
   generalize hWW : wr = W at *
   clear hWW
   have HF := Hi (show ∀ (wx : World) (bn : Nat), W.heap.size ≤ bn → Below W.heap.size W wx → Bk wx bn 57 #[.int .i64 p, .int .i64 a, .int .i64 b] → Bk wx bn 57 #[.int .i64 p, .int .i64 a, .int .i64 b] ∧ w.heap.size < bn ∧ Bk wx w.heap.size 57 #[.int .i64 0, .int .i64 0, .int .i64 0] ∧ Below w.heap.size w wx from fun wx bn h1 h2 h3 => ⟨h3, Nat.lt_of_lt_of_le HR.out.1.lt h1, HR.out.1.kept h2, HB.out.trans (h2.mono HB.out.size)⟩)
   go_cut [5] from 17 to 30 (fun s wx => ∃ bn, s = .pointer (some ⟨bn, 0, none⟩) ∧ Bk wx bn 57 #[.int .i64 p, .int .i64 a, .int .i64 b] ∧ w.heap.size < bn ∧ Bk wx w.heap.size 57 #[.int .i64 0, .int .i64 0, .int .i64 0] ∧ Below w.heap.size w wx)
   case first =>
    refine rgS W (fun hN => ?_)
    refine tkH 0 rfl ?_; go_simp
    refine tkH 1 rfl ?_; go_simp
    refine tkH 2 rfl ?_; go_simp
    refine tkH 4 rfl ?_; go_simp
    refine tkH 5 rfl ?_; go_simp
    refine tkH 6 rfl ?_; go_simp
    refine tkH 8 rfl ?_; go_simp
    refine tkH 9 rfl ?_; go_simp
    refine tkH 10 rfl ?_; go_simp
    generalize hwd : W.drew = wd at *
    clear hwd e0 e1 e2 e3 e4 e5
    refine rdy [3, 13] ?_
    refine Hb rfl (fun K hK => ?_) ?_
    focus
     go_simp
     refine (HL0.out _ (HB.out.trans (hN.2.mono HB.out.size))).mono ?_
     rintro e w1 ⟨rfl, hbb⟩
     refine hK.out _ _ (sk_step hN hbb) (fun hN => ?_)
     clear hK K
     clear hbb
     go_simp
     refine rdy [7, 13] ?_
     refine Hb rfl (fun K hK => ?_) ?_
     focus
      go_simp
      refine (HL1.out _ (HB.out.trans (hN.2.mono HB.out.size))).mono ?_
      rintro e w2 ⟨rfl, hbb⟩
      refine hK.out _ _ (sk_step hN hbb) (fun hN => ?_)
      clear hK K
      clear hbb
      go_simp
      refine rdy [11, 13] ?_
      refine Hb rfl (fun K hK => ?_) ?_
      focus
       go_simp
       refine (HL2.out _ (HB.out.trans (hN.2.mono HB.out.size))).mono ?_
       rintro e w3 ⟨rfl, hbb⟩
       refine hK.out _ _ (sk_step hN hbb) (fun hN => ?_)
       clear hK K
       clear hbb
       go_simp
       refine tkH 12 rfl ?_; go_simp
       refine rdH 13 rfl (fun K hK => ?_)
       have hbb := (Below.refl (w3).heap.size w3).alloc (Nat.le_refl _) (.cells #[.int .i64 0, .int .i64 0, .int .i64 0] 57)
       have qn := Bk.new w3 57 #[.int .i64 0, .int .i64 0, .int .i64 0]
       have hbn : W.heap.size ≤ (w3).heap.size := hN.2.size
       go_simp
       refine hK.out _ _ (sk_step hN hbb) (fun hN => ?_)
       clear hK K hbb
       go_simp
       generalize hgw : (w3).alloc _ = wn at *
       generalize hgs : (w3).heap.size = bn at *
       clear hgw hgs
       have y0 := qn.cell 0
       have y1 := qn.cell 1
       have y2 := qn.cell 2
       have f0 := qn.frozen 0
       have f1 := qn.frozen 1
       have f2 := qn.frozen 2
       have yl := qn.lt
       have hX := ((hN.2.setCell (p := ⟨bn, 0, none⟩) hbn (.int .i64 p)).setCell (p := ⟨bn, 1, none⟩) hbn (.int .i64 a)).setCell (p := ⟨bn, 2, none⟩) hbn (.int .i64 b)
       have hQ := ((qn.put 0 (.int .i64 p)).put 1 (.int .i64 a)).put 2 (.int .i64 b)
       refine rdH 14 rfl (fun K hK => ?_)
       go_simp
       refine hK.out _ _ ⟨(bcell hX).1, hX⟩ (fun hN => ?_)
       clear hK K
       go_simp
       refine Hn ?_
       go_wp2_with fail
       go_meet
       exact ⟨bn, rfl, HF.out _ _ hbn hX hQ⟩
      refine Ha rfl (fun K hK => ?_)
      have hbb := (Below.refl (w2).heap.size w2).alloc (Nat.le_refl _) (.cells #[.int .i64 0, .int .i64 0, .int .i64 0] 57)
      have qn := Bk.new w2 57 #[.int .i64 0, .int .i64 0, .int .i64 0]
      have hbn : W.heap.size ≤ (w2).heap.size := hN.2.size
      go_simp
      refine hK.out _ _ (sk_step hN hbb) (fun hN => ?_)
      clear hK K hbb
      go_simp
      generalize hgw : (w2).alloc _ = wn at *
      generalize hgs : (w2).heap.size = bn at *
      clear hgw hgs
      refine rdH 11 rfl (fun K hK => ?_)
      go_simp
      refine (HL2.out _ (HB.out.trans (hN.2.mono HB.out.size))).mono ?_
      rintro e w3 ⟨rfl, hbb⟩
      refine hK.out _ _ (sk_step hN hbb) (fun hN => ?_)
      clear hK K
      have qn := qn.kept hbb
      clear hbb
      go_simp
      refine tkH 12 rfl ?_; go_simp
      have y0 := qn.cell 0
      have y1 := qn.cell 1
      have y2 := qn.cell 2
      have f0 := qn.frozen 0
      have f1 := qn.frozen 1
      have f2 := qn.frozen 2
      have yl := qn.lt
      have hX := ((hN.2.setCell (p := ⟨bn, 0, none⟩) hbn (.int .i64 p)).setCell (p := ⟨bn, 1, none⟩) hbn (.int .i64 a)).setCell (p := ⟨bn, 2, none⟩) hbn (.int .i64 b)
      have hQ := ((qn.put 0 (.int .i64 p)).put 1 (.int .i64 a)).put 2 (.int .i64 b)
      refine rdH 14 rfl (fun K hK => ?_)
      go_simp
      refine hK.out _ _ ⟨(bcell hX).1, hX⟩ (fun hN => ?_)
      clear hK K
      go_simp
      refine Hn ?_
      go_wp2_with fail
      go_meet
      exact ⟨bn, rfl, HF.out _ _ hbn hX hQ⟩
     refine Ha rfl (fun K hK => ?_)
     have hbb := (Below.refl (w1).heap.size w1).alloc (Nat.le_refl _) (.cells #[.int .i64 0, .int .i64 0, .int .i64 0] 57)
     have qn := Bk.new w1 57 #[.int .i64 0, .int .i64 0, .int .i64 0]
     have hbn : W.heap.size ≤ (w1).heap.size := hN.2.size
     go_simp
     refine hK.out _ _ (sk_step hN hbb) (fun hN => ?_)
     clear hK K hbb
     go_simp
     generalize hgw : (w1).alloc _ = wn at *
     generalize hgs : (w1).heap.size = bn at *
     clear hgw hgs
     refine rdH 7 rfl (fun K hK => ?_)
     go_simp
     refine (HL1.out _ (HB.out.trans (hN.2.mono HB.out.size))).mono ?_
     rintro e w2 ⟨rfl, hbb⟩
     refine hK.out _ _ (sk_step hN hbb) (fun hN => ?_)
     clear hK K
     have qn := qn.kept hbb
     clear hbb
     go_simp
     refine rdH 11 rfl (fun K hK => ?_)
     go_simp
     refine (HL2.out _ (HB.out.trans (hN.2.mono HB.out.size))).mono ?_
     rintro e w3 ⟨rfl, hbb⟩
     refine hK.out _ _ (sk_step hN hbb) (fun hN => ?_)
     clear hK K
     have qn := qn.kept hbb
     clear hbb
     go_simp
     refine tkH 12 rfl ?_; go_simp
     have y0 := qn.cell 0
     have y1 := qn.cell 1
     have y2 := qn.cell 2
     have f0 := qn.frozen 0
     have f1 := qn.frozen 1
     have f2 := qn.frozen 2
     have yl := qn.lt
     have hX := ((hN.2.setCell (p := ⟨bn, 0, none⟩) hbn (.int .i64 p)).setCell (p := ⟨bn, 1, none⟩) hbn (.int .i64 a)).setCell (p := ⟨bn, 2, none⟩) hbn (.int .i64 b)
     have hQ := ((qn.put 0 (.int .i64 p)).put 1 (.int .i64 a)).put 2 (.int .i64 b)
     refine rdH 14 rfl (fun K hK => ?_)
     go_simp
     refine hK.out _ _ ⟨(bcell hX).1, hX⟩ (fun hN => ?_)
     clear hK K
     go_simp
     refine Hn ?_
     go_wp2_with fail
     go_meet
     exact ⟨bn, rfl, HF.out _ _ hbn hX hQ⟩
    refine Ha rfl (fun K hK => ?_)
    have hbb := (Below.refl (wd).heap.size wd).alloc (Nat.le_refl _) (.cells #[.int .i64 0, .int .i64 0, .int .i64 0] 57)
    have qn := Bk.new wd 57 #[.int .i64 0, .int .i64 0, .int .i64 0]
    have hbn : W.heap.size ≤ (wd).heap.size := hN.2.size
    go_simp
    refine hK.out _ _ (sk_step hN hbb) (fun hN => ?_)
    clear hK K hbb
    go_simp
    generalize hgw : (wd).alloc _ = wn at *
    generalize hgs : (wd).heap.size = bn at *
    clear hgw hgs
    refine rdH 3 rfl (fun K hK => ?_)
    go_simp
    refine (HL0.out _ (HB.out.trans (hN.2.mono HB.out.size))).mono ?_
    rintro e w1 ⟨rfl, hbb⟩
    refine hK.out _ _ (sk_step hN hbb) (fun hN => ?_)
    clear hK K
    have qn := qn.kept hbb
    clear hbb
    go_simp
    refine rdH 7 rfl (fun K hK => ?_)
    go_simp
    refine (HL1.out _ (HB.out.trans (hN.2.mono HB.out.size))).mono ?_
    rintro e w2 ⟨rfl, hbb⟩
    refine hK.out _ _ (sk_step hN hbb) (fun hN => ?_)
    clear hK K
    have qn := qn.kept hbb
    clear hbb
    go_simp
    refine rdH 11 rfl (fun K hK => ?_)
    go_simp
    refine (HL2.out _ (HB.out.trans (hN.2.mono HB.out.size))).mono ?_
    rintro e w3 ⟨rfl, hbb⟩
    refine hK.out _ _ (sk_step hN hbb) (fun hN => ?_)
    clear hK K
    have qn := qn.kept hbb
    clear hbb
    go_simp
    refine tkH 12 rfl ?_; go_simp
    have y0 := qn.cell 0
    have y1 := qn.cell 1
    have y2 := qn.cell 2
    have f0 := qn.frozen 0
    have f1 := qn.frozen 1
    have f2 := qn.frozen 2
    have yl := qn.lt
    have hX := ((hN.2.setCell (p := ⟨bn, 0, none⟩) hbn (.int .i64 p)).setCell (p := ⟨bn, 1, none⟩) hbn (.int .i64 a)).setCell (p := ⟨bn, 2, none⟩) hbn (.int .i64 b)
    have hQ := ((qn.put 0 (.int .i64 p)).put 1 (.int .i64 a)).put 2 (.int .i64 b)
    refine rdH 14 rfl (fun K hK => ?_)
    go_simp
    refine hK.out _ _ ⟨(bcell hX).1, hX⟩ (fun hN => ?_)
    clear hK K
    go_simp
    refine Hn ?_
    go_wp2_with fail
    go_meet
    exact ⟨bn, rfl, HF.out _ _ hbn hX hQ⟩
   case rest =>
    obtain ⟨bn, rfl, hq, hlt, h0, hB⟩ := hcut
    obtain ⟨y0, y1, y2, _, _, _⟩ := hq.six
    obtain ⟨r0, r1, r2, _, _, _⟩ := h0.six
    have yl := hq.lt
    have zl := h0.lt
    generalize wc = wx at *
    have HQ := Hi (And.intro h0 hB)
    clear h0 hB hq
    go_upto_region 7 with (fail)
    refine wp_region_held_drew (S := (fun w' => ∀ o, w'.cell? ⟨bn, o, none⟩ = wx.cell? ⟨bn, o, none⟩)) (by kernel_rfl) (fun _ => rfl) (fun hN => ?_)
    refine tkH 0 rfl ?_; go_simp
    refine tkH 1 rfl ?_; go_simp
    refine rdH 2 rfl (fun K hK => ?_)
    go_simp
    refine (HV.out _).mono ?_
    rintro e w5 ⟨rfl, hbb⟩
    have hb5 : Below wx.heap.size wx w5 := ((Below.refl wx.heap.size wx).drew).trans hbb
    refine hK.out _ _ (fun o => (bcell hb5).1 bn o yl) (fun hHeld5 => ?_)
    clear hK K hbb
    go_simp
    have q5 := HQ.out.1.kept hb5
    obtain ⟨x0, x1, x2, f0, f1, f2⟩ := q5.six
    have xl := q5.lt
    have HX := Hi (And.intro (((q5.put 0 (.int .i64 p)).put 1 (.int .i64 a)).put 2 (.int .i64 b)) ((((HQ.out.2.trans (hb5.mono HQ.out.2.size)).setCell (p := ⟨w.heap.size, 0, none⟩) (Nat.le_refl _) (.int .i64 p)).setCell (p := ⟨w.heap.size, 1, none⟩) (Nat.le_refl _) (.int .i64 a)).setCell (p := ⟨w.heap.size, 2, none⟩) (Nat.le_refl _) (.int .i64 b)))
    have HK := Hi (show ∀ o, (((w5.setCell ⟨w.heap.size, 0, none⟩ (.int .i64 p)).setCell ⟨w.heap.size, 1, none⟩ (.int .i64 a)).setCell ⟨w.heap.size, 2, none⟩ (.int .i64 b)).cell? ⟨bn, o, none⟩ = wx.cell? ⟨bn, o, none⟩ from fun o => by
     have h1 := (bcell hb5).1 bn o yl
     have h2 : (((w5.setCell ⟨w.heap.size, 0, none⟩ (.int .i64 p)).setCell ⟨w.heap.size, 1, none⟩ (.int .i64 a)).setCell ⟨w.heap.size, 2, none⟩ (.int .i64 b)).heap[bn]? = w5.heap[bn]? := (Below.heap_setCell _ _ _ _ (by simp; omega)).trans ((Below.heap_setCell _ _ _ _ (by simp; omega)).trans (Below.heap_setCell _ _ _ _ (by simp; omega)))
     rw [← h1]
     unfold World.cell?
     rw [show (((w5.setCell ⟨w.heap.size, 0, none⟩ (.int .i64 p)).setCell ⟨w.heap.size, 1, none⟩ (.int .i64 a)).setCell ⟨w.heap.size, 2, none⟩ (.int .i64 b)).heap[(⟨bn, o, none⟩ : Addr).block]? = w5.heap[(⟨bn, o, none⟩ : Addr).block]? from h2])
    clear q5 hN hb5
    refine rdH 3 rfl (fun K hK => ?_)
    go_simp
    refine hK.out _ _ HK.out (fun hHeld6 => ?_)
    clear hK K
    go_simp
    refine tkH 4 rfl ?_; go_simp
    refine Hn ?_
    have z0 := HX.out.1.cell 0
    have z1 := HX.out.1.cell 1
    have z2 := HX.out.1.cell 2
    have HF2 := Lib.hid HX.out.2
    clear hHeld6 HK
    go_wp2_with fail
    exact bodyPost_ret (v := .tuple #[cv p a b, .bool ok]) (by simp [results, results79, go_sem, z0, z1, z2]) rfl ⟨rfl, HF2.out⟩
  ·have HB := Lib.hid HR.out.2
   have HQ := Lib.hid HR.out.1
   rcases (show k = 0 ∨ k = 1 ∨ k = 2 by omega) with rfl | rfl | rfl
   ·have HA := Hi (And.intro HB.out HQ.out)
    go_wp2_with fail
    refine (HW0.out _ HA.out.1).mono ?_
    rintro e w1 ⟨rfl, hB1⟩
    go_wp2_with fail
    go_roundw
    case rel => exact ⟨1, by omega, rfl, Lib.hid ⟨HA.out.2.kept hB1, HA.out.1.trans (hB1.mono HA.out.1.size)⟩⟩
    case measure => simp [intOf]
   ·have HA := Hi (And.intro HB.out HQ.out)
    go_wp2_with fail
    refine (HW1.out _ HA.out.1).mono ?_
    rintro e w1 ⟨rfl, hB1⟩
    go_wp2_with fail
    go_roundw
    case rel => exact ⟨2, by omega, rfl, Lib.hid ⟨HA.out.2.kept hB1, HA.out.1.trans (hB1.mono HA.out.1.size)⟩⟩
    case measure => simp [intOf]
   ·have HA := Hi (And.intro HB.out HQ.out)
    go_wp2_with fail
    refine (HW2.out _ HA.out.1).mono ?_
    rintro e w1 ⟨rfl, hB1⟩
    go_wp2_with fail
    go_roundw
    case rel => exact ⟨3, by omega, rfl, Lib.hid ⟨HA.out.2.kept hB1, HA.out.1.trans (hB1.mono HA.out.1.size)⟩⟩
    case measure => simp [intOf]
theorem Rcurve_no (g cap : Nat) (vs : List (Bool × Nat)) (hl : vs.length = 3) (w : World) (h : IntsB w g vs cap) (hs : ∀ v ∈ vs, v.1 = true → 0 < v.2) (hb : ∀ v ∈ vs, v.2 < 4294967296 ^ 9) (hno : ∃ v ∈ vs, inI v.1 v.2 0 4095 = false) :
  Calls prog 79 #[.slice (some ⟨g, 0, none⟩) 3 cap] w (RetNoC w) := by
 have HW := Hi (fun (v : Bool × Nat) (hv : v ∈ vs) m W (hm : IV W m v.2) => RWithin_calls v.1 v.2 9 false 0 false 4095 m W hm (hs v hv) (hb v hv) (by omega) (by simp) (by simp) (by omega) (by omega))
 simp only [show sI false 0 = 0 from rfl, show sI false 4095 = 4095 from rfl] at HW
 have q0 := Bk.new w 57 #[.int .i64 0, .int .i64 0, .int .i64 0]
 have hB0 := (Below.refl w.heap.size w).alloc (Nat.le_refl _) (.cells #[.int .i64 0, .int .i64 0, .int .i64 0] 57)
 have HI := Lib.hid h
 have HNo := Lib.hid hno
 have HL := Lib.hid hl
 clear hs hb hno h hl
 have HS := Hi (And.intro (show ∀ (j : Nat) v, j < 0 → vs[j]? = some v → inI v.1 v.2 0 4095 = true from fun j v hj => by omega) (And.intro q0 hB0))
 clear q0 hB0
 go_enter func79, ntmps79
 go_wp2_with fail
 go_loopw [4] (fun i wr => ∃ k : Nat, k ≤ 3 ∧ i = .int .i64 k ∧ Hid ((∀ (j : Nat) v, j < k → vs[j]? = some v → inI v.1 v.2 0 4095 = true) ∧ Bk wr w.heap.size 57 #[.int .i64 0, .int .i64 0, .int .i64 0] ∧ Below w.heap.size w wr)) (fun i _ => 3 - (intOf i).toNat)
 case atStart => exact ⟨0, by omega, rfl, HS⟩
 case round =>
  obtain ⟨k, hk, rfl, HR⟩ := hrel
  by_cases h3 : k = 3
  ·exfalso
   obtain ⟨v, hv, hv0⟩ := HNo.out
   obtain ⟨j, hj⟩ := List.getElem?_of_mem hv
   have hj3 : j < 3 := by have := (List.getElem?_eq_some_iff.1 hj).1; have := HL.out; omega
   rw [HR.out.1 j v (by omega) hj] at hv0
   cases hv0
  ·obtain ⟨⟨sg, z⟩, hv⟩ : ∃ v, vs[k]? = some v := ⟨_, List.getElem?_eq_getElem (by have := HL.out; omega)⟩
   obtain ⟨m, c0, c1, hm, hgl⟩ := (HI.out.kept HR.out.2.2).at (j := k) hv
   obtain ⟨Am, nm, cm, rfl⟩ := hm.slice
   have HV := Hi (List.mem_of_getElem? hv)
   have HVK := Lib.hid hv
   have HX := Hi (HW.out (sg, z) HV.out _ _ (hm))
   have HA := Hi (And.intro HR.out.2.1 HR.out.2.2)
   clear hv hm
   dsimp only at c0
   rcases (show k = 0 ∨ k = 1 ∨ k = 2 by omega) with rfl | rfl | rfl
   all_goals
    simp only [Nat.zero_mul, Nat.one_mul, Nat.reduceMul, Nat.reduceAdd, Nat.zero_add] at c0 c1
    go_wp2_with fail
    refine HX.out.mono ?_
    rintro e w1 ⟨rfl, hB1⟩
    have q1 := HA.out.1.kept hB1
    have hB := HA.out.2.trans (hB1.mono HA.out.2.size)
    dsimp only
    cases hin : inI sg z 0 4095 with
    | true =>
     have HIn := Lib.hid hin
     clear hin
     go_wp2_with fail
     go_roundw
     case rel =>
      have hU := upto_succ (P := fun v => inI v.1 v.2 0 4095 = true) HR.out.1 HVK.out HIn.out
      first | exact ⟨1, by omega, rfl, Lib.hid ⟨hU, q1, hB⟩⟩ | exact ⟨2, by omega, rfl, Lib.hid ⟨hU, q1, hB⟩⟩ | exact ⟨3, by omega, rfl, Lib.hid ⟨hU, q1, hB⟩⟩
     case measure => simp [intOf]
    | false =>
     clear hin
     obtain ⟨r0, r1, r2, g0, g1, g2⟩ := q1.six
     have rl := q1.lt
     go_wp2_with fail
     have qf := ((q1.put 0 (.int .i64 0)).put 1 (.int .i64 0)).put 2 (.int .i64 0)
     have y0 := qf.cell 0
     have y1 := qf.cell 1
     have y2 := qf.cell 2
     refine bodyPost_ret (v := .tuple #[cv 0 0 0, .bool false]) (by simp [results, results79, go_sem, y0, y1, y2]) rfl ⟨rfl, ((hB.setCell (by simp) _).setCell (by simp) _).setCell (by simp) _⟩
end Go.Proofs.YthjilnnmahcnpaaGreatDoor
