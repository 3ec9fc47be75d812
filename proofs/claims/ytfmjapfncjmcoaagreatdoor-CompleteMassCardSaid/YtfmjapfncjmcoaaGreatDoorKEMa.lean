/- The sums of 1/Auts over the curves of a table, prime by prime: pure. -/
import Derived.Test.YtfmjapfncjmcoaaGreatDoorKDMS
import Derived.Test.YtfmjapfncjmcoaaGreatDoorKCN
import Derived.Test.YtfmjapfncjmcoaaGreatDoorKDNFa
import Derived.Test.YtfmjapfncjmcoaaGreatDoorKDEA1
import Derived.Test.YtfmjapfncjmcoaaGreatDoorKDI1
import Derived.Test.YtfmjapfncjmcoaaGreatDoorKEO
set_option maxRecDepth 100000
set_option maxHeartbeats 32000000
namespace Go.Proofs.YtfmjapfncjmcoaaGreatDoor
open Go.RowKit Go.Shelf
def canC (c : Nat × Nat × Nat) : Nat × Int × Int := (c.1, canI c.1 c.2.1 c.2.2 (us (c.1 - 1)))
def nodupB : List (Nat × Int × Int) → Bool
 | [] => true
 | x :: l => !l.contains x && nodupB l
theorem nodupB_ne : ∀ {l : List (Nat × Int × Int)} {i j : Nat} {x y : Nat × Int × Int}, nodupB l = true → i < j → l[i]? = some x → l[j]? = some y → x ≠ y
 | [], i, j, x, y, _, _, hx, _ => by simp at hx
 | a :: l, 0, j + 1, x, y, h, _, hx, hy => by
  simp only [nodupB, Bool.and_eq_true, Bool.not_eq_true'] at h
  simp only [List.getElem?_cons_zero, Option.some.injEq] at hx
  subst hx
  rw [List.getElem?_cons_succ] at hy
  rintro rfl
  have := List.mem_of_getElem? hy
  rw [← List.contains_iff_mem] at this
  rw [this] at h
  exact absurd h.1 (by decide)
 | a :: l, i + 1, j + 1, x, y, h, hij, hx, hy => by
  simp only [nodupB, Bool.and_eq_true] at h
  rw [List.getElem?_cons_succ] at hx hy
  exact nodupB_ne h.2 (by omega) hx hy
def stepL (s : Nat × (Nat × Nat) × Nat) (c : Nat × Nat × Nat) : Nat × (Nat × Nat) × Nat :=
 if c.1 = s.2.2 then (s.1, addR s.2.1 (autK c), s.2.2) else (if 0 < s.2.2 then s.1 + 1 else s.1, addR (0, 1) (autK c), c.1)
def checkL (M : List (Nat × Nat)) (s : Nat × (Nat × Nat) × Nat) (c : Nat × Nat × Nat) : Bool :=
 decide (s.2.2 ≤ c.1) && decide (1 ≤ autK c) && (decide (c.1 = s.2.2) || decide (s.2.2 = 0) || (decide (M[s.1]? = some s.2.1) && decide (s.2.1 = (s.2.2, 1))))
def smallL (s : Nat × (Nat × Nat) × Nat) : Bool := decide (s.2.1.1 < 256) && decide (s.2.1.2 < 256) && decide (0 < s.2.1.2) && decide (s.2.2 < 256)
def runL (M : List (Nat × Nat)) : Nat × (Nat × Nat) × Nat → List (Nat × Nat × Nat) → Bool
 | s, [] => smallL s && (if s.2.2 = 0 then M.isEmpty else decide (s.1 + 1 = M.length) && decide (M[s.1]? = some s.2.1) && decide (s.2.1 = (s.2.2, 1)))
 | s, c :: l => smallL s && checkL M s c && runL M (stepL s c) l
theorem runL_at (M : List (Nat × Nat)) : ∀ (l : List (Nat × Nat × Nat)) (s : Nat × (Nat × Nat) × Nat) (i : Nat) (c : Nat × Nat × Nat), runL M s l = true → l[i]? = some c → smallL ((l.take i).foldl stepL s) = true ∧ checkL M ((l.take i).foldl stepL s) c = true
 | [], s, i, c, _, hc => by simp at hc
 | x :: l, s, 0, c, h, hc => by
  simp only [runL, Bool.and_eq_true] at h
  simp only [List.getElem?_cons_zero, Option.some.injEq] at hc
  subst hc
  exact h.1
 | x :: l, s, i + 1, c, h, hc => by
  simp only [runL, Bool.and_eq_true] at h
  rw [List.getElem?_cons_succ] at hc
  exact runL_at M l (stepL s x) i c h.2 hc
theorem runL_end (M : List (Nat × Nat)) : ∀ (l : List (Nat × Nat × Nat)) (s : Nat × (Nat × Nat) × Nat), runL M s l = true → runL M (l.foldl stepL s) [] = true
 | [], s, h => h
 | x :: l, s, h => by
  rw [runL, Bool.and_eq_true] at h
  exact runL_end M l (stepL s x) h.2
def massB (d : Nat) (ps : List Nat) : Bool := runL (massTo (csOf d ps)).2 (0, (0, 1), 0) (csOf d ps) && nodupB ((csOf d ps).map canC)
theorem massB_all : (allPs.all fun ps => massB 1 ps && massB 2 ps) = true := by kernel_rfl
end Go.Proofs.YtfmjapfncjmcoaaGreatDoor
namespace Go.Proofs.YtfmjapfncjmcoaaGreatDoor.S
open Go.RowKit Go.Shelf Go.Proofs.YtfmjapfncjmcoaaGreatDoor Go.Proofs.YtfmjapfncjmcoaaGreatDoor.G
theorem miss_full0 {tw : List Nat} {L : List (List UInt8)} {ns : List Lb} (h : ∀ s, s ∈ ns ↔ s ∈ lbTo [] [] tw L L.length ∨ s = ([120], false)) : missF L (heldB [] ns) = [] := by
 unfold missF
 rw [List.filter_eq_nil_iff]
 intro x hx
 obtain ⟨i, hi⟩ := List.getElem?_of_mem hx
 have hlt := (List.getElem?_eq_some_iff.1 hi).1
 have hm : (x, false) ∈ ns := by
  rw [h]
  left
  unfold lbTo
  rw [List.mem_flatMap]
  refine ⟨i, List.mem_range.2 hlt, ?_⟩
  unfold lab
  rw [hi]
  simp [hasB_nil]
 have : heldB [] ns x = true := by
  unfold heldB
  rw [List.any_eq_true]
  exact ⟨_, hm, by simp [okH]⟩
 simp [this]
theorem rQOf_small (n k : Nat) (hn : n < 4294967296) (hk : 0 < k) (hk' : k < 4294967296) (W : World) : Calls Tryz.prog 8 #[.int .i64 n, .int .i64 k] W fun e w' => ∃ m1 m2, e = .returned (.agg #[.bool false, m1, .bool false, m2]) ∧ NV w' m1 (n / Nat.gcd n k) ∧ NV w' m2 (k / Nat.gcd n k) ∧ Below W.heap.size W w' := by
 refine (rQOf_calls n false n k (fun W => (Of_calls n W hn).mono ?_) W hk hn hk').mono ?_
 ·rintro e w' ⟨m, rfl, hB, hm⟩
  exact ⟨m, rfl, hm, hB⟩
 ·rintro e w' ⟨m1, m2, rfl, h1, h2, hB⟩
  simp only [Bool.false_and] at h1 h2 ⊢
  exact ⟨m1, m2, rfl, h1, h2, hB⟩
structure MF (cs : List (Nat × Nat × Nat)) (M : List (Nat × Nat)) : Prop where
 ok : ∀ c ∈ cs, cvOk c = true
 sm : ∀ c ∈ cs, c.1 ≤ 13
 run : runL M (0, (0, 1), 0) cs = true
 nd : nodupB (cs.map canC) = true
 len : cs.length ≤ 400
theorem okM_mem : ∀ {l : List (Nat × Nat × Nat)} {s : Nat × List (Nat × Nat)}, okM s l = true → ∀ c ∈ l, cvOk c = true
 | [], _, _, c, hc => by cases hc
 | x :: l, s, h, c, hc => by
  simp only [okM, Bool.and_eq_true] at h
  rcases List.mem_cons.1 hc with rfl | hc
  ·exact h.1.2
  ·exact okM_mem h.2 c hc
theorem mf_of (lo hi d : Nat) (hl : lo ≤ hi) (hh : hi ≤ 13) (hd : d = 1 ∨ d = 2) : MF (csOf d (prs lo hi)) (massTo (csOf d (prs lo hi))).2 := by
 have h1 := psOk_all lo hi d hl hh hd
 have h2 := List.all_eq_true.1 massB_all _ (prs_mem lo hi hl hh)
 rw [Bool.and_eq_true] at h2
 have h3 : massB d (prs lo hi) = true := by
  rcases hd with rfl | rfl
  ·exact h2.1
  ·exact h2.2
 unfold massB at h3
 rw [Bool.and_eq_true] at h3
 refine ⟨okM_mem h1.1, fun c hc => ?_, h3.1, h3.2, h1.2.2⟩
 unfold csOf at hc
 rw [List.mem_flatMap] at hc
 obtain ⟨p, hp, hc⟩ := hc
 rw [List.mem_map] at hc
 obtain ⟨_, _, rfl⟩ := hc
 unfold prs at hp
 have := (List.mem_filter.1 hp).1
 rw [List.mem_range'_1] at this
 show p ≤ 13
 omega
def stL (cs : List (Nat × Nat × Nat)) (i : Nat) : Nat × (Nat × Nat) × Nat := (cs.take i).foldl stepL (0, (0, 1), 0)
theorem stL_succ {cs : List (Nat × Nat × Nat)} {i : Nat} {c : Nat × Nat × Nat} (h : cs[i]? = some c) : stL cs (i + 1) = stepL (stL cs i) c := by
 unfold stL
 rw [List.take_add_one, h, List.foldl_append]
 rfl
theorem MF.at_ {cs : List (Nat × Nat × Nat)} {M : List (Nat × Nat)} (h : MF cs M) {i : Nat} {c : Nat × Nat × Nat} (hc : cs[i]? = some c) : smallL (stL cs i) = true ∧ checkL M (stL cs i) c = true := runL_at M cs _ i c h.run hc
theorem MF.end_ {cs : List (Nat × Nat × Nat)} {M : List (Nat × Nat)} (h : MF cs M) : smallL (stL cs cs.length) = true ∧ (if (stL cs cs.length).2.2 = 0 then M = [] else (stL cs cs.length).1 + 1 = M.length ∧ M[(stL cs cs.length).1]? = some (stL cs cs.length).2.1 ∧ (stL cs cs.length).2.1 = ((stL cs cs.length).2.2, 1)) := by
 have := runL_end M cs _ h.run
 unfold stL
 rw [List.take_length]
 generalize cs.foldl stepL (0, (0, 1), 0) = s at *
 unfold runL at this
 rw [Bool.and_eq_true] at this
 refine ⟨this.1, ?_⟩
 have h2 := this.2
 split at h2
 ·rename_i h0; rw [if_pos h0]; simpa using h2
 ·rename_i h0; rw [if_neg h0]; simpa [and_assoc] using h2
def canV (c : Nat × Nat × Nat) : List Value := [.int .i64 (canC c).1, .int .i64 (canC c).2.1, .int .i64 (canC c).2.2]
def canVs (cs : List (Nat × Nat × Nat)) : List Value := cs.flatMap canV
theorem canVs_snoc (cs : List (Nat × Nat × Nat)) (c : Nat × Nat × Nat) : canVs (cs ++ [c]) = canVs cs ++ canV c := by simp [canVs]
theorem canVs_at : ∀ {cs : List (Nat × Nat × Nat)} {j : Nat} {c : Nat × Nat × Nat}, cs[j]? = some c → ∀ (i : Nat) v, (canV c)[i]? = some v → (canVs cs)[j * 3 + i]? = some v
 | [], j, c, h, _, _, _ => by simp at h
 | x :: l, 0, c, h, i, v, hv => by
  simp only [List.getElem?_cons_zero, Option.some.injEq] at h
  subst h
  have hi := (List.getElem?_eq_some_iff.1 hv).1
  rw [show canVs (x :: l) = canV x ++ canVs l by simp [canVs], List.getElem?_append_left (by omega), Nat.zero_mul, Nat.zero_add, hv]
 | x :: l, j + 1, c, h, i, v, hv => by
  rw [List.getElem?_cons_succ] at h
  rw [show canVs (x :: l) = canV x ++ canVs l by simp [canVs], List.getElem?_append_right (by simp [canV]; omega)]
  have := canVs_at h i v hv
  rw [show (j + 1) * 3 + i - (canV x).length = j * 3 + i by simp [canV]; omega, this]
theorem A_rat : AggT 46 4 := agg_of (by kernel_rfl) (by kernel_rfl)
theorem A_fc : AggT 54 3 := agg_of (by kernel_rfl) (by kernel_rfl)
theorem T_fc : ElemT 48 54 (.agg #[.int .i64 0, .int .i64 0, .int .i64 0]) 3 24 := ⟨by kernel_rfl, by kernel_rfl, rfl, by decide⟩
theorem trP_setRow {W : World} {g : Nat} {t0 : TypeId} {cs0 : Array Value} (q : Bk W g t0 cs0) (ds : Array Value) : TrP (fun t => t ≠ t0) W (W.setRow g ds) := fun _ _ _ hn q1 => setRow_far q1 (Bk.ne q1 q hn) ds
theorem trp_nv {P : TypeId → Prop} {W Y : World} (h : TrP P W Y) (hp : P 52) {m : Value} {z : Nat} (hz : z < 18446744073709551616) (hi : NV W m z) : NV Y m z := (h.iv hp (hi.iv hz)).nv hz
theorem trp_rats {P : TypeId → Prop} {W Y : World} (h : TrP P W Y) (hp : P 52) : ∀ {cs : List Value} {l : List (Nat × Nat)}, (∀ x ∈ l, x.1 < 18446744073709551616 ∧ x.2 < 18446744073709551616) → RatsR W cs l → RatsR Y cs l
 | [], [], _, _ => trivial
 | u :: m1 :: u' :: m2 :: cs, x :: l, hx, hr => ⟨hr.1, hr.2.1, trp_nv h hp (hx x (by simp)).1 hr.2.2.1, trp_nv h hp (hx x (by simp)).2 hr.2.2.2.1, trp_rats h hp (fun y hy => hx y (by simp [hy])) hr.2.2.2.2⟩
 | [], _ :: _, _, hr => hr.elim
 | [_], _, _, hr => by cases ‹List (Nat × Nat)› <;> exact hr.elim
 | [_, _], _, _, hr => by cases ‹List (Nat × Nat)› <;> exact hr.elim
 | [_, _, _], _, _, hr => by cases ‹List (Nat × Nat)› <;> exact hr.elim
 | _ :: _ :: _ :: _ :: _, [], _, hr => hr.elim
end Go.Proofs.YtfmjapfncjmcoaaGreatDoor.S
namespace Go.Proofs.YtfmjapfncjmcoaaGreatDoor.S
open Go.RowKit Go.Shelf Go.Proofs.YtfmjapfncjmcoaaGreatDoor Go.Proofs.YtfmjapfncjmcoaaGreatDoor.G
structure EMI (w : World) (b5 b8 : Nat) (C : Array Value) (vn : Value) (L : List (List UInt8)) (vm : Value) (M : List (Nat × Nat)) (cs : List (Nat × Nat × Nat)) (i : Nat) (x : Nat × Nat) (sn : Value) (W : World) : Prop where
 k5 : Bk W b5 34 C
 nm : ∃ base, W.ownsRow base 9 1 vn L.length (L.map st)
 ms : ∃ base ds, W.ownsRow base 46 4 vm M.length ds ∧ RatsR W ds M
 nb : vm.ownBlock ≠ some b8
 q8 : ∃ A1 n1 c1 A2 n2 c2, Bk W b8 46 #[.bool false, .slice A1 n1 c1, .bool false, .slice A2 n2 c2] ∧ NV W (.slice A1 n1 c1) x.1 ∧ NV W (.slice A2 n2 c2) x.2
 sn : W.ownsRow (b8 + 1) 54 3 sn i (canVs (cs.take i))
 b5w : w.heap.size ≤ b5
 b8w : w.heap.size ≤ b8
 hB : Below w.heap.size w W
def smQ (x : Nat × Nat) : Prop := x.1 < 18446744073709551616 ∧ x.2 < 18446744073709551616
section
variable {w W Y : World} {b5 b8 i : Nat} {C : Array Value} {vn vm sn : Value} {L : List (List UInt8)} {M : List (Nat × Nat)} {cs : List (Nat × Nat × Nat)} {x : Nat × Nat}
theorem EMI.kept (h : EMI w b5 b8 C vn L vm M cs i x sn W) (hb : Below W.heap.size W Y) : EMI w b5 b8 C vn L vm M cs i x sn Y := by
 obtain ⟨k5, ⟨bn, nm⟩, ⟨bm, ds, ms, hr⟩, nb, ⟨A1, n1, c1, A2, n2, c2, q, m1, m2⟩, hsn, h5, h8, hB⟩ := h
 exact ⟨k5.kept hb, ⟨bn, ownsRow_kept nm hb⟩, ⟨bm, ds, ownsRow_kept ms hb, hr.kept hb⟩, nb, ⟨A1, n1, c1, A2, n2, c2, q.kept hb, m1.kept hb, m2.kept hb⟩, ownsRow_kept hsn hb, h5, h8, hB.trans (hb.mono hB.size)⟩
theorem EMI.put (h : EMI w b5 b8 C vn L vm M cs i x sn W) (hM : ∀ y ∈ M, smQ y) {x' : Nat × Nat} (hx' : smQ x') {A1 A2 : Option Addr} {n1 c1 n2 c2 : Nat} (h1 : NV W (.slice A1 n1 c1) x'.1) (h2 : NV W (.slice A2 n2 c2) x'.2) :
  EMI w b5 b8 C vn L vm M cs i x' sn (W.setRow b8 #[.bool false, .slice A1 n1 c1, .bool false, .slice A2 n2 c2]) := by
 obtain ⟨k5, ⟨bn, nm⟩, ⟨bm, ds, ms, hr⟩, nb, ⟨B1, l1, d1, B2, l2, d2, q, m1, m2⟩, hsn, h5, h8, hB⟩ := h
 have T := trP_setRow q #[.bool false, .slice A1 n1 c1, .bool false, .slice A2 n2 c2]
 refine ⟨T _ _ _ (by decide) k5, ⟨bn, T.own (by decide) nm⟩, ⟨bm, ds, ?_, trp_rats T (by decide) hM hr⟩, nb, ⟨A1, n1, c1, A2, n2, c2, setRow_bk q _, trp_nv T (by decide) hx'.1 h1, trp_nv T (by decide) hx'.2 h2⟩, T.own (by decide) hsn, h5, h8, below_setRow hB h8 _⟩
 refine ⟨ms.1, ms.2.imp id fun ⟨g, cap, cur, e1, e2, e3, r⟩ => ⟨g, cap, cur, e1, e2, setRow_far (show Bk W g 46 cur from e3) (fun e => nb ?_) _, r⟩⟩
 rw [e1]
 simpa [Value.ownBlock] using e
theorem EMI.box (h : EMI w b5 b8 C vn L vm M cs i x sn W) (hx : smQ x) (hM : ∀ y ∈ M, smQ y) {b : Nat} {c0 : Array Value} (q : Bk W b 54 c0) (hb : sn.ownBlock ≠ some b) (hw : w.heap.size ≤ b) (k : Nat) (u : Value) :
  EMI w b5 b8 C vn L vm M cs i x sn (W.setCell ⟨b, k, none⟩ u) := by
 obtain ⟨k5, ⟨bn, nm⟩, ⟨bm, ds, ms, hr⟩, nb, ⟨B1, l1, d1, B2, l2, d2, q8, m1, m2⟩, hsn, h5, h8, hB⟩ := h
 have T := trP_set q k u
 refine ⟨T _ _ _ (by decide) k5, ⟨bn, T.own (by decide) nm⟩, ⟨bm, ds, T.own (by decide) ms, trp_rats T (by decide) hM hr⟩, nb, ⟨B1, l1, d1, B2, l2, d2, T _ _ _ (by decide) q8, trp_nv T (by decide) hx.1 m1, trp_nv T (by decide) hx.2 m2⟩, ?_, h5, h8, hB.setCell (p := ⟨b, k, none⟩) hw u⟩
 refine ⟨hsn.1, hsn.2.imp id fun ⟨g, cap, cur, e1, e2, e3, r⟩ => ⟨g, cap, cur, e1, e2, Bk.far (show Bk W g 54 cur from e3) (p := ⟨b, k, none⟩) u (fun e => hb ?_), r⟩⟩
 rw [e1]
 simpa [Value.ownBlock] using e
theorem EMI.grow (h : EMI w b5 b8 C vn L vm M cs i x sn W) (hx : smQ x) (hM : ∀ y ∈ M, smQ y) {c : Nat × Nat × Nat} (hc : cs[i]? = some c) {v' : Value} (ho : Y.ownsRow (b8 + 1) 54 3 v' (i + 1) (canVs (cs.take i) ++ canV c)) (hg : W.grownBy Y sn.ownBlock) :
  EMI w b5 b8 C vn L vm M cs (i + 1) x v' Y := by
 obtain ⟨k5, ⟨bn, nm⟩, ⟨bm, ds, ms, hr⟩, nb, ⟨B1, l1, d1, B2, l2, d2, q8, m1, m2⟩, hsn, h5, h8, hB⟩ := h
 have T := trP_row hg (fun r e => (ownBlock_bk hsn r e).2)
 refine ⟨T _ _ _ (by decide) k5, ⟨bn, T.own (by decide) nm⟩, ⟨bm, ds, T.own (by decide) ms, trp_rats T (by decide) hM hr⟩, nb, ⟨B1, l1, d1, B2, l2, d2, T _ _ _ (by decide) q8, trp_nv T (by decide) hx.1 m1, trp_nv T (by decide) hx.2 m2⟩, ?_, h5, h8, hB.grown hg hB.size (fun r e => by have := (ownBlock_bk hsn r e).1; omega)⟩
 rw [List.take_add_one, hc, Option.toList_some, canVs_snoc]
 exact ho
theorem EMI.slice (h : EMI w b5 b8 C vn L vm M cs i x sn W) : ∃ A c, sn = .slice A i c := by
 rcases h.sn.2 with ⟨rfl, rfl⟩ | ⟨g, cap, _, rfl, _⟩
 ·exact ⟨_, _, rfl⟩
 ·exact ⟨_, _, rfl⟩
theorem EMI.seen (h : EMI w b5 b8 C vn L vm M cs i x sn W) {j : Nat} {c : Nat × Nat × Nat} (hj : j < i) (hc : cs[j]? = some c) : ∃ g cap, sn = .slice (some ⟨g, 0, none⟩) i cap ∧ g < W.heap.size ∧ ∀ (k : Nat) v, (canV c)[k]? = some v → W.cell? ⟨g, j * 3 + k, none⟩ = some v := by
 rcases h.sn.2 with ⟨_, h0⟩ | ⟨g, cap, cur, rfl, hB, hh, h1, h2, h3, h4⟩
 ·omega
 ·have q : Bk W g 54 cur := hh
  refine ⟨g, cap, rfl, q.lt, fun k v hv => ?_⟩
  have hcj : (cs.take i)[j]? = some c := by rw [List.getElem?_take_of_lt hj]; exact hc
  have := canVs_at hcj k v hv
  rw [← h4, List.getElem?_take] at this
  split at this
  ·rw [q.cell]; simpa using this
  ·cases this
theorem EMI.name (h : EMI w b5 b8 C vn L vm M cs i x sn W) {j : Nat} {s : List UInt8} (hs : L[j]? = some s) : ∃ g cap, vn = .slice (some ⟨g, 0, none⟩) L.length cap ∧ g < W.heap.size ∧ W.cell? ⟨g, j, none⟩ = some (st s) := by
 obtain ⟨bn, ho⟩ := h.nm
 rcases ho.2 with ⟨_, h0⟩ | ⟨g, cap, cur, rfl, hB, hh, h1, h2, h3, h4⟩
 ·have := (List.getElem?_eq_some_iff.1 hs).1; omega
 ·have q : Bk W g 9 cur := hh
  refine ⟨g, cap, rfl, q.lt, ?_⟩
  have : (L.map st)[j]? = some (st s) := by simp [hs]
  rw [← h4, List.getElem?_take] at this
  split at this
  ·rw [q.cell]; simpa using this
  ·cases this
theorem EMI.mass (h : EMI w b5 b8 C vn L vm M cs i x sn W) {j : Nat} {y : Nat × Nat} (hy : M[j]? = some y) : ∃ g cap A1 n1 c1 A2 n2 c2, vm = .slice (some ⟨g, 0, none⟩) M.length cap ∧ g < W.heap.size ∧ (∀ (k : Nat) v, [.bool false, .slice A1 n1 c1, .bool false, .slice A2 n2 c2][k]? = some v → W.cell? ⟨g, j * 4 + k, none⟩ = some v) ∧ NV W (.slice A1 n1 c1) y.1 ∧ NV W (.slice A2 n2 c2) y.2 := by
 obtain ⟨bn, ds, ho, hr⟩ := h.ms
 obtain ⟨m1, m2, d0, d1, d2, d3, v1, v2⟩ := hr.at_ hy
 obtain ⟨A1, c1, rfl⟩ := v1.slice
 obtain ⟨A2, c2, rfl⟩ := v2.slice
 rcases ho.2 with ⟨_, h0⟩ | ⟨g, cap, cur, rfl, hB, hh, h1, h2, h3, h4⟩
 ·have := (List.getElem?_eq_some_iff.1 hy).1; omega
 ·have q : Bk W g 46 cur := hh
  refine ⟨g, cap, A1, _, c1, A2, _, c2, rfl, q.lt, fun k v hv => ?_, v1, v2⟩
  have hd : ds[j * 4 + k]? = some v := by
   rcases k with _ | _ | _ | _ | k
   ·simpa using d0.trans hv
   ·simpa using d1.trans hv
   ·simpa using d2.trans hv
   ·simpa using d3.trans hv
   ·simp at hv
  rw [← h4, List.getElem?_take] at hd
  split at hd
  ·rw [q.cell]; simpa using hd
  ·cases hd
end
end Go.Proofs.YtfmjapfncjmcoaaGreatDoor.S
