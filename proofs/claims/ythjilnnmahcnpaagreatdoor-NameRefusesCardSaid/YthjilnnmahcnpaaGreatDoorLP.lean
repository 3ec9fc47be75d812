/- The reference's curves: which are made. The curve that a definition chooses is the least one: pure. -/
import Derived.Test.YthjilnnmahcnpaaGreatDoorLF
import Derived.Test.YthjilnnmahcnpaaGreatDoorLB
import Derived.Deep.LoopGhost
import Derived.Test.YthjilnnmahcnpaaGreatDoorLO
namespace Go.Proofs.YthjilnnmahcnpaaGreatDoor
open Go.RowKit Go.Shelf

theorem sideI_eq (p a b : Int) (ha : 0 ≤ a) (ha' : a < p) (hb : 0 ≤ b) (hb' : b < p) : (4 * (a * a % p * a % p) + 27 * (b * b % p)) % p = sideI p a b := by
  unfold sideI pw3 pw2
  rw [Int.emod_eq_of_lt ha ha', Int.emod_eq_of_lt ha ha', Int.emod_eq_of_lt hb hb', Int.emod_emod_of_dvd _ (Int.dvd_refl p), Int.mul_comm a (a * a % p)]
set_option maxHeartbeats 1000000 in
theorem side21_calls (p a b : Int) (w : World) (hp : 1 ≤ p) (hp' : p ≤ 10000) (ha : 0 ≤ a) (ha' : a < p) (hb : 0 ≤ b) (hb' : b < p) :
    Calls Tryz.prog 86 #[cv p a b] w fun e w' => e = .returned (.int .i64 (sideI p a b)) ∧ Below w.heap.size w w' := by
  rw [← sideI_eq p a b ha ha' hb hb']
  obtain ⟨a1, a2⟩ := mul_bd ha (by omega : a ≤ 10000) ha (by omega)
  obtain ⟨a3, a4⟩ := mod_bd (x := a * a) hp
  obtain ⟨a5, a6⟩ := mul_bd a3 (by omega : a * a % p ≤ 10000) ha (by omega)
  obtain ⟨a7, a8⟩ := mod_bd (x := a * a % p * a) hp
  obtain ⟨b1, b2⟩ := mul_bd hb (by omega : b ≤ 10000) hb (by omega)
  obtain ⟨b3, b4⟩ := mod_bd (x := b * b) hp
  have q := Bk.new w 57 #[.int .i64 p, .int .i64 a, .int .i64 b]
  have hB0 := (Below.refl w.heap.size w).alloc (Nat.le_refl _) (.cells #[.int .i64 p, .int .i64 a, .int .i64 b] 57)
  have HM := Lib.hid (fun W => Mod_calls (4 * (a * a % p * a % p) + 27 * (b * b % p)) p W (by omega) (by omega) hp (by omega))
  obtain ⟨c0, c1, c2, _, _, _⟩ := q.six
  have hl := q.lt
  go_enter Tryz.func86, Tryz.ntmps86
  go_wp2_with fail
  generalize w.alloc (.cells #[.int .i64 p, .int .i64 a, .int .i64 b] 57) = W at *
  go_quiet (fail)
  go_wp2_with fail
  go_upto_region 2 with (fail)
  have hBd : Below W.heap.size W (W.drewN nq) := ⟨rfl, rfl, rfl, Nat.le_refl _, fun _ _ => rfl⟩
  have q := q.kept hBd
  have hB0 := hB0.trans (hBd.mono hB0.size)
  generalize W.drewN nq = W at *
  obtain ⟨c0, c1, c2, _, _, _⟩ := q.six
  have hl := q.lt
  have hpn : ¬ p = 0 := by omega
  have t1 : (b * b).tmod p = b * b % p := Int.tmod_eq_emod_of_nonneg b1
  have e0 : IntKind.i64.wrap (b * b) = b * b := IntWalk.i64_in _ (by omega)
  have e1 : IntKind.i64.wrap (4 * (a * a % p * a % p)) = 4 * (a * a % p * a % p) := IntWalk.i64_in _ (by omega)
  have e2 : IntKind.i64.wrap (27 * (b * b % p)) = 27 * (b * b % p) := IntWalk.i64_in _ (by omega)
  have e3 : IntKind.i64.wrap (4 * (a * a % p * a % p) + 27 * (b * b % p)) = 4 * (a * a % p * a % p) + 27 * (b * b % p) := IntWalk.i64_in _ (by omega)
  go_region_held3 (fun w' => (∀ b o, b < W.heap.size → w'.cell? ⟨b, o, none⟩ = W.cell? ⟨b, o, none⟩) ∧ Below W.heap.size W w')
    (first | exact sk_start _ | exact sk_step (by assumption) (by assumption))
    ((go_at_call 127; (with_reducible refine (HM.out _).mono ?_); rintro e w' ⟨rfl, rfl⟩))
  rename_i hH
  have hBq := hH.2
  go_wp2_with fail
  go_ret
  exact ⟨rfl, hB0.trans (hBq.mono hB0.size)⟩
set_option maxHeartbeats 2000000 in
theorem Valid21_calls (p : Nat) (a b : Int) (w : World) (hp : 5 ≤ p) (hp' : p ≤ 4000) (hpr : primeB p = true) (ha : 0 ≤ a) (ha' : a < p) (hb : 0 ≤ b) (hb' : b < p) :
    Calls Tryz.prog 55 #[cv p a b] w fun e w' => e = .returned (.bool (okI p a b)) ∧ Below w.heap.size w w' := by
  have HP := Lib.hid (fun W => Prime_calls p W (by omega))
  rw [hpr] at HP
  have HS := Lib.hid (fun W => side21_calls p a b W (by omega) (by omega) ha ha' hb hb')
  have HE := Lib.hid (show okI p a b = (sideI p a b != 0) from rfl)
  clear hpr
  generalize sideI p a b = s at *
  have q := Bk.new w 57 #[.int .i64 p, .int .i64 a, .int .i64 b]
  have hB0 := (Below.refl w.heap.size w).alloc (Nat.le_refl _) (.cells #[.int .i64 p, .int .i64 a, .int .i64 b] 57)
  have hl := q.lt
  obtain ⟨c0, c1, c2, _, _, _⟩ := q.six
  have hd1 : decide ((p : Int) < 5) = false := by simp; omega
  have hd2 : decide ((p : Int) > 4095) = false := by simp; omega
  go_enter Tryz.func55, Tryz.ntmps55
  go_wp2_with fail
  refine (HP.out _).mono ?_
  rintro e w' ⟨rfl, rfl⟩
  go_wp2_with fail
  refine (HS.out _).mono ?_
  rintro e w1 ⟨rfl, hB⟩
  go_wp2_with fail
  go_ret
  exact ⟨ret_bool (by rw [HE.out]), hB0.trans (hB.mono hB0.size)⟩

/-- from any place, one of three numbers gives a curve -/
def okN (p r b : Nat) : Bool := (r + 27 * (b * b % p)) % p != 0
theorem ok_soon : (List.range 98).all (fun p => !(primeB p && decide (5 ≤ p)) || (List.range p).all fun r => (List.range p).all fun b => okN p r b || okN p r ((b + 1) % p) || okN p r ((b + 2) % p)) = true := by decide +kernel
theorem ok_next {p a b : Nat} (hp : 5 ≤ p) (hp' : p < 98) (hpr : primeB p = true) (ha : a < p) (hb : b < p) : okI p a b = true ∨ okI p a ((b + 1) % p : Nat) = true ∨ okI p a ((b + 2) % p : Nat) = true := by
  have h := List.all_eq_true.1 ok_soon p (List.mem_range.2 hp')
  rw [hpr, decide_eq_true hp] at h
  simp only [Bool.and_self, Bool.not_true, Bool.false_or] at h
  have h1 := List.all_eq_true.1 (List.all_eq_true.1 h (4 * (a * a % p * a % p) % p) (List.mem_range.2 (Nat.mod_lt _ (by omega)))) b (List.mem_range.2 hb)
  have hk : ∀ x : Nat, x < p → okN p (4 * (a * a % p * a % p) % p) x = okI p a x := fun x hx => by
    unfold okI okN
    rw [← sideI_eq p a x (by omega) (by omega) (by omega) (by omega), Nat.mod_add_mod]
    rw [show (4 * ((a : Int) * a % p * a % p) + 27 * ((x : Int) * x % p)) % p = ((((4 * (a * a % p * a % p) + 27 * (x * x % p)) % p : Nat)) : Int) by push_cast; rfl]
    generalize (4 * (a * a % p * a % p) + 27 * (x * x % p)) % p = y
    cases y <;> rfl
  rw [hk _ hb, hk _ (Nat.mod_lt _ (by omega)), hk _ (Nat.mod_lt _ (by omega))] at h1
  simpa [or_assoc] using h1

/-- a valid curve of a prime below 100 -/
def CvOK (p a b : Nat) : Prop := 5 ≤ p ∧ p < 98 ∧ primeB p = true ∧ a < p ∧ b < p ∧ okI p a b = true
theorem putR {w : World} {g : Nat} {t : TypeId} {a b c : Value} (q : Bk w g t #[a, b, c]) (v0 v1 v2 : Value) : Bk (((w.setCell ⟨g, 0, none⟩ v0).setCell ⟨g, 1, none⟩ v1).setCell ⟨g, 2, none⟩ v2) g t #[v0, v1, v2] := by
  have := ((q.put 0 v0).put 1 v1).put 2 v2
  simpa using this
set_option maxRecDepth 100000 in
set_option maxHeartbeats 2000000 in
theorem Made21_calls (xp xa xb : Nat) (w : World) (hx : xp < 256) (hxa : xa < 65536) (hxb : xb < 65536) :
    Calls Tryz.prog 31 #[.agg #[.int .u8 xp, .int .u16 xa, .int .u16 xb], .int .i64 90] w fun e w' => (∃ p a b, e = .returned (cv (p : Nat) (a : Nat) (b : Nat)) ∧ CvOK p a b) ∧ Below w.heap.size w w' := by
  have q0 := Bk.new w 28 #[.int .u8 xp, .int .u16 xa, .int .u16 xb]
  have q1 := Bk.new (w.alloc (.cells #[.int .u8 xp, .int .u16 xa, .int .u16 xb] 28)) 57 #[.int .i64 0, .int .i64 0, .int .i64 0]
  have hB1 := ((Below.refl w.heap.size w).alloc (Nat.le_refl _) (.cells #[.int .u8 xp, .int .u16 xa, .int .u16 xb] 28)).alloc (by simp) (.cells #[.int .i64 0, .int .i64 0, .int .i64 0] 57)
  have q0 := q0.alloc (.cells #[.int .i64 0, .int .i64 0, .int .i64 0] 57)
  rw [World.size_alloc] at q1
  obtain ⟨x0, x1, x2, _, _, _⟩ := q0.six
  have l0 := q0.lt
  have l1 := q1.lt
  have HS := Lib.hid (And.intro q1 hB1)
  clear q0 q1 hB1
  go_enter Tryz.func31, Tryz.ntmps31
  go_wp2_with fail
  generalize (w.alloc (.cells #[.int .u8 xp, .int .u16 xa, .int .u16 xb] 28)).alloc (.cells #[.int .i64 0, .int .i64 0, .int .i64 0] 57) = W1 at *
  obtain ⟨k0, hk0⟩ : ∃ k0 : Nat, k0 = 5 + xp % 90 := ⟨_, rfl⟩
  have hk1 : (5 : Int) + (xp : Int) % 90 = (k0 : Int) := by omega
  have hk2 : 5 ≤ k0 ∧ k0 ≤ 97 := by omega
  rw [hk1]
  go_loopw [5] (fun pv wr => ∃ k : Nat, pv = .int .i64 k ∧ 5 ≤ k ∧ k ≤ 97 ∧ wr = W1) (fun pv _ => 97 - (intOf pv).toNat)
  case atStart => exact ⟨k0, rfl, hk2.1, hk2.2, rfl⟩
  case round =>
    obtain ⟨k, rfl, hk5, hk97, rfl⟩ := hrel
    have HP := Lib.hid (fun W => Prime_calls k W (by omega))
    by_cases hpr : primeB k = true
    · rw [hpr] at HP
      have HPr := Lib.hid hpr
      clear hpr
      go_wp2_with fail
      refine (HP.out _).mono ?_
      rintro e w' ⟨rfl, rfl⟩
      dsimp only
      go_upto_region 4 with (fail)
      go_region
      have q4 := (Bk.new wr 57 #[.int .i64 k, .int .i64 ((xa : Int) % k), .int .i64 ((xb : Int) % k)]).kept ((Below.refl _ _).drew)
      have hal := ((Below.refl wr.heap.size wr).alloc (Nat.le_refl _) (.cells #[.int .i64 k, .int .i64 ((xa : Int) % k), .int .i64 ((xb : Int) % k)] 57)).drew
      have qr := HS.out.1.kept hal
      have hB := HS.out.2.trans (hal.mono HS.out.2.size)
      have hb6 : w.heap.size + 1 < wr.heap.size := l1
      have hk0 : xa % k < k ∧ xb % k < k := ⟨Nat.mod_lt _ (by omega), Nat.mod_lt _ (by omega)⟩
      rw [show ((xa : Int) % (k : Int)) = ((xa % k : Nat) : Int) by push_cast; rfl, show ((xb : Int) % (k : Int)) = ((xb % k : Nat) : Int) by push_cast; rfl] at *
      generalize (wr.alloc (.cells #[.int .i64 k, .int .i64 ((xa % k : Nat) : Int), .int .i64 ((xb % k : Nat) : Int)] 57)).drew = W2 at *
      generalize wr.heap.size = b6 at *
      generalize xa % k = a0 at *
      generalize xb % k = b0 at *
      have HS2 := Lib.hid (And.intro qr hB)
      have HN := Lib.hid (show ∃ j, j ≤ 2 ∧ okI k a0 ((b0 + j) % k : Nat) = true by
        rcases ok_next (p := k) (by omega) (by omega) HPr.out hk0.1 hk0.2 with h | h | h
        · exact ⟨0, by omega, by rwa [Nat.add_zero, Nat.mod_eq_of_lt hk0.2]⟩
        · exact ⟨1, by omega, h⟩
        · exact ⟨2, by omega, h⟩)
      clear qr hB hal x0 x1 x2 l0 hk1
      go_upto_region 5 with (fail)
      go_loopg [] 2 (fun g wi => ∃ b' : Nat, b' < k ∧ Bk wi b6 57 #[.int .i64 k, .int .i64 a0, .int .i64 b'] ∧ Hid ((∃ j, j ≤ g ∧ okI k a0 ((b' + j) % k : Nat) = true) ∧ Bk wi (w.heap.size + 1) 57 #[.int .i64 0, .int .i64 0, .int .i64 0] ∧ Below w.heap.size w wi))
      case atStart => exact ⟨b0, hk0.2, q4, Lib.hid ⟨HN.out, HS2.out⟩⟩
      case round =>
        obtain ⟨b', hb', q, HR⟩ := hrel
        have HV := Lib.hid (fun W => Valid21_calls k a0 b' W hk5 (by omega) HPr.out (by omega) (by omega) (by omega) (by omega))
        obtain ⟨d0, d1, d2, f0, f1, f2⟩ := q.six
        have ql := q.lt
        go_wp2_with fail
        refine (HV.out _).mono ?_
        rintro e w2 ⟨rfl, hB2⟩
        have q2 := q.kept hB2
        have qr2 := HR.out.2.1.kept hB2
        have hB3 := HR.out.2.2.trans (hB2.mono HR.out.2.2.size)
        obtain ⟨d0, d1, d2, f0, f1, f2⟩ := q2.six
        have ql2 := q2.lt
        by_cases hok : okI k a0 b' = true
        · have HO := Lib.hid hok
          obtain ⟨r0, r1, r2, g0, g1, g2⟩ := qr2.six
          have rl := qr2.lt
          rw [hok]
          clear hok
          dsimp only
          go_wp2_with fail
          obtain ⟨y0, y1, y2, _, _, _⟩ := (putR qr2 (.int .i64 k) (.int .i64 a0) (.int .i64 b')).six
          refine bodyPost_ret (v := cv k a0 b') (by simp [results, Tryz.results31, go_sem, y0, y1, y2]) rfl ⟨⟨k, a0, b', rfl, hk5, by omega, HPr.out, hk0.1, hb', HO.out⟩, ?_⟩
          exact ((hB3.setCell (by simp) _).setCell (by simp) _).setCell (by simp) _
        · rw [Bool.not_eq_true] at hok
          have HJ := Lib.hid (show ∃ j, j + 1 ≤ gk ∧ okI k a0 (((b' + 1) % k + j) % k : Nat) = true by
            obtain ⟨j, hj, ho⟩ := HR.out.1
            rcases j with _ | j
            · rw [Nat.add_zero, Nat.mod_eq_of_lt hb', hok] at ho
              cases ho
            · exact ⟨j, hj, by rw [Nat.mod_add_mod, show b' + 1 + j = b' + (j + 1) by omega]; exact ho⟩)
          have hm : (b' + 1) % k < k := Nat.mod_lt _ (by omega)
          obtain ⟨m, hmm⟩ : ∃ m, m = (b' + 1) % k := ⟨_, rfl⟩
          rw [← hmm] at HJ hm
          have hmi : (((b' : Int) + 1)) % (k : Int) = (m : Int) := by rw [hmm]; push_cast; rfl
          rw [hok]
          clear hmm
          dsimp only
          go_wp2_with fail
          go_roundg (gk - 1)
          case measure => obtain ⟨j, hj, _⟩ := HJ.out; omega
          case rel =>
            refine ⟨m, hm, ?_, Lib.hid ⟨?_, qr2.far (p := ⟨b6, 2, none⟩) _ (by simp; omega), hB3.setCell (p := ⟨b6, 2, none⟩) (by simp; omega) _⟩⟩
            · simpa using q2.put 2 (.int .i64 m)
            · obtain ⟨j, hj, ho⟩ := HJ.out
              exact ⟨j, by omega, ho⟩
    · have hne : k ≠ 97 := fun e => hpr (by subst e; decide +kernel)
      rw [Bool.not_eq_true] at hpr
      rw [hpr] at HP
      clear hpr
      go_wp2_with fail
      refine (HP.out _).mono ?_
      rintro e w' ⟨rfl, rfl⟩
      dsimp only
      go_wp2_with fail
      go_roundw
      case rel => exact ⟨k + 1, by simp, by omega, by omega, trivial⟩
      case measure => simp [intOf]; omega

end Go.Proofs.YthjilnnmahcnpaaGreatDoor

namespace Go.Proofs.YthjilnnmahcnpaaGreatDoor
open Go.RowKit Go.Shelf

theorem ltDI_trans {d : Nat} {x y z : Int × Int} (h1 : ltDI d y x = false) (h2 : ltDI d z y = false) : ltDI d z x = false := by
  unfold ltDI ltI at *
  generalize swI d x = x at *
  generalize swI d y = y at *
  generalize swI d z = z at *
  simp only [Bool.or_eq_false_iff, Bool.and_eq_false_iff, decide_eq_false_iff_not] at *
  omega
theorem ltDI_asymm {d : Nat} {x y : Int × Int} (h : ltDI d x y = true) : ltDI d y x = false := by
  unfold ltDI ltI at *
  generalize swI d x = x at *
  generalize swI d y = y at *
  simp only [Bool.or_eq_true, Bool.and_eq_true, decide_eq_true_eq, Bool.or_eq_false_iff, Bool.and_eq_false_iff, decide_eq_false_iff_not] at *
  omega
theorem ltDI_refl (d : Nat) (x : Int × Int) : ltDI d x x = false := by
  unfold ltDI ltI
  simp
/-- none of the curves is before the one that is chosen -/
theorem chI_us (d : Nat) (p a b : Int) : ∀ k, ltDI d (a, b) (chI d p a b (us k)) = false ∧ ∀ u, 1 ≤ u → u ≤ k → ltDI d (mv p a u, mvB p b u) (chI d p a b (us k)) = false := by
  intro k
  induction k with
  | zero => exact ⟨ltDI_refl _ _, fun u h1 h2 => by omega⟩
  | succ k ih =>
    rw [us_succ, chI_snoc]
    by_cases h : ltDI d (mv p a (k + 1 : Nat), mvB p b (k + 1 : Nat)) (chI d p a b (us k)) = true
    · rw [if_pos h]
      have h' := ltDI_asymm h
      refine ⟨ltDI_trans h' ih.1, fun u h1 h2 => ?_⟩
      rcases Nat.lt_or_ge u (k + 1) with hu | hu
      · exact ltDI_trans h' (ih.2 u h1 (by omega))
      · obtain rfl : u = k + 1 := by omega
        exact ltDI_refl _ _
    · rw [if_neg h]
      refine ⟨ih.1, fun u h1 h2 => ?_⟩
      rcases Nat.lt_or_ge u (k + 1) with hu | hu
      · exact ih.2 u h1 (by omega)
      · obtain rfl : u = k + 1 := by omega
        simpa using h
/-- the one that is chosen is one of them -/
theorem chI_is (d : Nat) (p a b : Int) : ∀ k, chI d p a b (us k) = (a, b) ∨ ∃ u, 1 ≤ u ∧ u ≤ k ∧ chI d p a b (us k) = (mv p a (u : Nat), mvB p b (u : Nat)) := by
  intro k
  induction k with
  | zero => exact .inl rfl
  | succ k ih =>
    rw [us_succ, chI_snoc]
    by_cases h : ltDI d (mv p a (k + 1 : Nat), mvB p b (k + 1 : Nat)) (chI d p a b (us k)) = true
    · rw [if_pos h]
      exact .inr ⟨k + 1, by omega, by omega, rfl⟩
    · rw [if_neg h]
      rcases ih with h1 | ⟨u, h1, h2, h3⟩
      · exact .inl h1
      · exact .inr ⟨u, h1, by omega, h3⟩
/-- curves stay curves -/
theorem inv_all : (List.range 98).all (fun p => !primeB p || (List.range p).all fun u => u == 0 || (List.range p).any fun v => u * v % p == 1) = true := by decide +kernel
theorem inv_of {p u : Nat} (hp : p < 98) (hpr : primeB p = true) (h0 : 0 < u) (hu : u < p) : ∃ v : Nat, v < p ∧ u * v % p = 1 := by
  have h := List.all_eq_true.1 inv_all p (List.mem_range.2 hp)
  rw [hpr] at h
  simp only [Bool.not_true, Bool.false_or] at h
  have h1 := List.all_eq_true.1 h u (List.mem_range.2 hu)
  rw [show (u == 0) = false by simp; omega, Bool.false_or, List.any_eq_true] at h1
  obtain ⟨v, hv, hv2⟩ := h1
  exact ⟨v, List.mem_range.1 hv, by simpa using hv2⟩
theorem cgm {p x x' y y' : Int} (h1 : x % p = x' % p) (h2 : y % p = y' % p) : (x * y) % p = (x' * y') % p := by rw [Int.mul_emod, h1, h2, ← Int.mul_emod]
theorem cga {p x x' y y' : Int} (h1 : x % p = x' % p) (h2 : y % p = y' % p) : (x + y) % p = (x' + y') % p := by rw [Int.add_emod, h1, h2, ← Int.add_emod]
theorem cgr {p x y : Int} (h : x % p = y % p) : (x % p) % p = y % p := by rw [Int.emod_emod_of_dvd _ (Int.dvd_refl p), h]
theorem side_plain (p a b : Int) (ha : 0 ≤ a) (ha' : a < p) (hb : 0 ≤ b) (hb' : b < p) : sideI p a b = (4 * (a * a * a) + 27 * (b * b)) % p := by
  rw [← sideI_eq p a b ha ha' hb hb']
  exact cga (cgm rfl (cgr (cgm (cgr rfl) rfl))) (cgm rfl (cgr rfl))
theorem moved_side (p a b u : Int) (hp : 0 < p) : sideI p (mv p a u) (mvB p b u) = (u * u * u * u * u * u * (u * u * u * u * u * u) * (4 * (a * a * a) + 27 * (b * b))) % p := by
  rw [← sideI_eq p (mv p a u) (mvB p b u) (mv_bd a u (by omega)).1 (mv_bd a u (by omega)).2 (mvB_bd b u (by omega)).1 (mvB_bd b u (by omega)).2]
  have h4 : ((u * u % p) * (u * u % p) % p) % p = (u * u * (u * u)) % p := cgr (cgm (cgr rfl) (cgr rfl))
  have hA : mv p a u % p = (a * (u * u * (u * u))) % p := cgr (cgm rfl h4)
  have hB : mvB p b u % p = (b * (u * u * (u * u)) * (u * u)) % p := cgr (cgm (cgr (cgm rfl h4)) (cgr rfl))
  rw [cga (cgm (rfl : (4 : Int) % p = 4 % p) (cgr (cgm (cgr (cgm hA hA)) hA))) (cgm (rfl : (27 : Int) % p = 27 % p) (cgr (cgm hB hB)))]
  exact congrArg (· % p) (by grind)
theorem inv12 {p u v : Int} (h : (u * v) % p = 1 % p) (s : Int) : (v * v * v * v * v * v * (v * v * v * v * v * v) * (u * u * u * u * u * u * (u * u * u * u * u * u) * s)) % p = s % p := by
  have e : v * v * v * v * v * v * (v * v * v * v * v * v) * (u * u * u * u * u * u * (u * u * u * u * u * u) * s) = (u * v) * (u * v) * (u * v) * (u * v) * (u * v) * (u * v) * ((u * v) * (u * v) * (u * v) * (u * v) * (u * v) * (u * v)) * s := by grind
  rw [e, cgm (cgm (cgm (cgm (cgm (cgm (cgm h h) h) h) h) h) (cgm (cgm (cgm (cgm (cgm h h) h) h) h) h)) (rfl : s % p = s % p)]
  simp
theorem ok_moved {p a b u : Nat} (hp : 5 ≤ p) (hp' : p < 98) (hpr : primeB p = true) (ha : a < p) (hb : b < p) (h0 : 0 < u) (hu : u < p) (hok : okI p a b = true) : okI p (mv p a u) (mvB p b u) = true := by
  obtain ⟨v, hv, hv1⟩ := inv_of hp' hpr h0 hu
  unfold okI at *
  rw [bne_iff_ne] at *
  intro e
  refine hok ?_
  rw [moved_side _ _ _ _ (by omega)] at e
  rw [side_plain _ _ _ (by omega) (by omega) (by omega) (by omega)]
  have hi : ((u : Int) * (v : Int)) % p = 1 % p := by
    rw [show ((u : Int) * (v : Int)) % p = ((u * v % p : Nat) : Int) by push_cast; rfl, hv1, Int.emod_eq_of_lt (by omega) (by omega)]
    rfl
  rw [← inv12 hi, cgm (rfl : _ % (p : Int) = _ % (p : Int)) (show _ % (p : Int) = 0 % (p : Int) by rw [e]; simp)]
  simp
/-- the curve that is chosen is one -/
theorem ok_ch {p a b : Nat} (d : Nat) (h : CvOK p a b) : ∃ a' b' : Nat, chI d p a b (us (p - 1)) = ((a' : Int), (b' : Int)) ∧ CvOK p a' b' := by
  obtain ⟨h1, h2, h3, h4, h5, h6⟩ := h
  rcases chI_is d p a b (p - 1) with e | ⟨u, u1, u2, e⟩
  · exact ⟨a, b, e, h1, h2, h3, h4, h5, h6⟩
  · have hk := ok_moved h1 h2 h3 h4 h5 (show 0 < u by omega) (by omega) h6
    obtain ⟨m1, m2⟩ := mv_bd (p := (p : Int)) (a : Int) (u : Int) (by omega)
    obtain ⟨m3, m4⟩ := mvB_bd (p := (p : Int)) (b : Int) (u : Int) (by omega)
    rw [e]
    generalize mv (p : Int) (a : Int) (u : Int) = x at *
    generalize mvB (p : Int) (b : Int) (u : Int) = y at *
    obtain ⟨x', rfl⟩ := Int.eq_ofNat_of_zero_le m1
    obtain ⟨y', rfl⟩ := Int.eq_ofNat_of_zero_le m3
    exact ⟨x', y', rfl, h1, h2, h3, by omega, by omega, hk⟩

end Go.Proofs.YthjilnnmahcnpaaGreatDoor
