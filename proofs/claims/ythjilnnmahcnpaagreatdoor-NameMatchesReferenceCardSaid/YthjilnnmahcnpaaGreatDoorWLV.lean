/- Names of objects: from what the kind's own object function says. -/
import Derived.Test.YthjilnnmahcnpaaGreatDoorWLT
namespace Go.Proofs.YthjilnnmahcnpaaGreatDoor
open Go.RowKit Go.Shelf Go.Proofs.Tryz
theorem letrs_colon {i : Nat} {x : UInt8} (h : letrs[i]? = some x) : x ≠ 58 := by
 have hi : i < 10 := (List.getElem?_eq_some_iff.1 h).1
 rcases ten_of hi with rfl | rfl | rfl | rfl | rfl | rfl | rfl | rfl | rfl | rfl
 all_goals (simp [letrs] at h; subst h; decide)
theorem object_of {i f : Nat} {x0 : UInt8} {vs : List (Bool × Nat)} {okb : Bool} {w : World} (hG : Glob w) (hi : kls[i]? = some ([x0], vs.length, f)) (hx : letrs[i]? = some x0) (ef : ∀ args w, (callFunc f args).run prog w = .ok (.enter f args) w)
  (hs : ∀ v ∈ vs, v.1 = true → 0 < v.2) (hl : (textN (i + 1) vs).length ≤ 80)
  (hobj : ∀ g cap W, Below w.heap.size w W → IntsB W g vs cap → Calls prog f #[.slice (some ⟨g, 0, none⟩) vs.length cap] W fun e w' => e = .returned (.bool okb) ∧ Below W.heap.size W w') :
  Calls prog 44 #[st (textN (i + 1) vs)] w fun e w' => Below w.heap.size w w' ∧ ((okb = true ∧ ∃ y g cap, e = .returned (.tuple #[.agg (k8 y), .int .i64 ((i + 1 : Nat) : Int), .slice (some ⟨g, 0, none⟩) vs.length cap]) ∧ IntsB w' g vs cap ∧ (∀ i, (y i).oneCell' = true) ∧ w.heap.size ≤ g) ∨ (okb = false ∧ e = .panicked [refusedE 320])) := by
 cases vs with
 | nil => have := kls_cnt hi; simp at this
 | cons v vs =>
  rw [textN_eq hx] at hl ⊢
  have hp := pieces_glue 58 ((v :: vs).map fun v => txt v.1 v.2) (by simp) (fun t ht => by
   obtain ⟨u, hu⟩ := allI_mem (allI_txt _ hs) t ht
   exact parseI_colon hu)
  exact object_gen _ _ x0 (v :: vs) i f okb w hG hl (by simp only [List.length_cons] at hl; omega) (cut_mk (letrs_colon hx)) hi (by rw [hp]; exact allI_txt _ hs) ef hobj
theorem good_of {i f : Nat} {x0 : UInt8} {vs : List (Bool × Nat)} {w : World} (hG : Glob w) (hi : kls[i]? = some ([x0], vs.length, f)) (hx : letrs[i]? = some x0) (ef : ∀ args w, (callFunc f args).run prog w = .ok (.enter f args) w)
  (hs : ∀ v ∈ vs, v.1 = true → 0 < v.2) (hl : (textN (i + 1) vs).length ≤ 80)
  (hobj : ∀ g cap W, Below w.heap.size w W → IntsB W g vs cap → Calls prog f #[.slice (some ⟨g, 0, none⟩) vs.length cap] W fun e w' => e = .returned (.bool true) ∧ Below W.heap.size W w') :
  Good (textN (i + 1) vs) (i + 1) vs w := by
 intro W hW
 refine (object_of (hG.kept hW) hi hx ef hs hl fun g cap X hX hI => hobj g cap X (hW.trans (hX.mono hW.size)) hI).mono ?_
 rintro e w' ⟨hB, ⟨_, y, g, cap, rfl, hI, hy, hg⟩ | ⟨h, _⟩⟩
 ·exact ⟨y, g, cap, rfl, hI, hy, hg, hB⟩
 ·cases h
theorem bad_of {i f : Nat} {x0 : UInt8} {vs : List (Bool × Nat)} {w : World} (hG : Glob w) (hi : kls[i]? = some ([x0], vs.length, f)) (hx : letrs[i]? = some x0) (ef : ∀ args w, (callFunc f args).run prog w = .ok (.enter f args) w)
  (hs : ∀ v ∈ vs, v.1 = true → 0 < v.2) (hl : (textN (i + 1) vs).length ≤ 80)
  (hobj : ∀ g cap W, Below w.heap.size w W → IntsB W g vs cap → Calls prog f #[.slice (some ⟨g, 0, none⟩) vs.length cap] W fun e w' => e = .returned (.bool false) ∧ Below W.heap.size W w') :
  Bad (textN (i + 1) vs) w := by
 intro W hW
 refine (object_of (hG.kept hW) hi hx ef hs hl fun g cap X hX hI => hobj g cap X (hW.trans (hX.mono hW.size)) hI).mono ?_
 rintro e w' ⟨hB, ⟨h, _⟩ | ⟨_, rfl⟩⟩
 ·cases h
 ·exact ⟨rfl, hB⟩
theorem IntsB.three {W : World} {g p a b cap : Nat} (h : IntsB W g [(false, p), (false, a), (false, b)] cap) (hp : p < 4294967296) (ha : a < 4294967296) (hb : b < 4294967296) : ∃ m0 m1 m2, Ints3 W g p a b m0 m1 m2 cap := by
 obtain ⟨⟨cur, q, hc⟩, hcap⟩ := h
 obtain ⟨m0, e0, e1, i0⟩ := hc 0 (false, p) rfl
 obtain ⟨m1, e2, e3, i1⟩ := hc 1 (false, a) rfl
 obtain ⟨m2, e4, e5, i2⟩ := hc 2 (false, b) rfl
 exact ⟨m0, m1, m2, ⟨cur, q, e0, e1, e2, e3, e4, e5⟩, hcap, i0.nv (by show p < _; omega), i1.nv (by show a < _; omega), i2.nv (by show b < _; omega)⟩
theorem good_curve {p a b : Nat} {w : World} (hG : Glob w) (hc : CvOK p a b) : Good (textN 7 [(false, p), (false, a), (false, b)]) 7 [(false, p), (false, a), (false, b)] w := by
 obtain ⟨hp5, hp98, hpr, ha, hb, hok⟩ := hc
 have h1 := txt_len false (z := p) (k := 3) (by omega)
 have h2 := txt_len false (z := a) (k := 3) (by omega)
 have h3 := txt_len false (z := b) (k := 3) (by omega)
 refine good_of (i := 6) (f := 189) hG rfl rfl (enters_of func189 (by kernel_rfl) rfl) (by simp) ?_ (fun g cap W hW hI => ?_)
 ·unfold textN; simp; omega
 ·obtain ⟨m0, m1, m2, h3⟩ := hI.three (by omega) (by omega) (by omega)
  have := curves1V_calls g p a b m0 m1 m2 cap W h3 _ (by omega) (by omega) (by omega) (fun W => Valid_calls p a b W hp5 (by omega) hpr (by omega) (by omega) (by omega) (by omega))
  rwa [hok] at this
set_option maxHeartbeats 1000000
theorem entryOf_calls (n : Nat) (w : World) (hn : n < 4294967296) :
  Calls prog 139 #[.int .i64 n] w fun e w' => ∃ mg, e = .returned (.agg #[.bool false, mg]) ∧ IV w' mg n ∧ Below w.heap.size w w' := by
 refine (eof_calls n w hn).mono ?_
 rintro e w1 ⟨m, rfl, hB, hR⟩
 exact ⟨m, rfl, IV.ofRet hR (by omega), hB⟩
theorem primes1_calls (g cap z : Nat) (w : World) (hI : IntsB w g [(false, z)] cap) (hz : z < 4294967296) :
  Calls prog 137 #[.slice (some ⟨g, 0, none⟩) 1 cap] w fun e w' => e = .returned (.bool (decide (2 ≤ z))) ∧ Below w.heap.size w w' := by
 obtain ⟨m, e0, e1, hm, hgl⟩ := hI.at (j := 0) (v := (false, z)) rfl
 obtain ⟨A, n, c, rfl⟩ := hm.slice
 simp only [Nat.zero_mul, Nat.zero_add] at e0 e1
 have hcap := hI.2
 have HO := Hi (fun W => entryOf_calls 2 W (by omega))
 have HC := Hi (fun mb W h1 h2 => gICmp_calls z 2 1 1 (.slice A n c) mb W h1 h2 (by simpa using hz) (by decide) (by omega) (by omega))
 have hcm : decide (cmpN z 2 ≥ 0) = decide (2 ≤ z) := by
  unfold cmpN
  split
  ·simp; omega
  ·split <;> simp <;> omega
 have HM := Lib.hid hm
 generalize decide (2 ≤ z) = r at *
 generalize cmpN z 2 = cc at *
 clear hI hm
 go_enter func137, ntmps137
 go_wp2_with fail
 refine wp_normal ?_
 refine rgS w (fun hN => ?_)
 refine tkH 0 rfl ?_; go_simp
 refine tkH 1 rfl ?_; go_simp
 refine tkH 2 rfl ?_; go_simp
 refine rdH 3 rfl (fun K hK => ?_)
 go_simp
 refine (HO.out _).mono ?_
 rintro e w1 ⟨mb, rfl, hI2, hb1⟩
 obtain ⟨A2, n2, k2, rfl⟩ := hI2.slice
 refine hK.out _ _ (sk_step hN hb1) (fun hN => ?_); clear hK K; go_simp
 refine rdH 4 rfl (fun K hK => ?_)
 go_simp
 refine (HC.out _ _ (HM.out.kept hN.2) hI2).mono ?_
 rintro e w2 ⟨rfl, hb2⟩
 refine hK.out _ _ (sk_step hN hb2) (fun hN => ?_); clear hK K; go_simp
 refine tkH 5 rfl ?_; go_simp
 refine tkH 6 rfl ?_; go_simp
 refine Hn ?_
 go_wp2_with fail
 go_ret
 exact ⟨ret_bool (by simp), hN.2⟩
theorem prime_len {z : Nat} (hz : z < 4294967296) : (textN 1 [(false, z)]).length ≤ 80 := by
 have := txt_len false (z := z) (k := 9) (by omega)
 unfold textN
 simp
 omega
theorem good_prime {z : Nat} {w : World} (hG : Glob w) (h2 : 2 ≤ z) (hz : z < 4294967296) : Good (textN 1 [(false, z)]) 1 [(false, z)] w := by
 refine good_of (i := 0) (f := 137) hG rfl rfl (enters_of func137 (by kernel_rfl) rfl) (by simp) (prime_len hz) (fun g cap W hW hI => ?_)
 have := primes1_calls g cap z W hI hz
 rwa [decide_eq_true h2] at this
theorem bad_prime {z : Nat} {w : World} (hG : Glob w) (h2 : z < 2) : Bad (textN 1 [(false, z)]) w := by
 refine bad_of (i := 0) (f := 137) hG rfl rfl (enters_of func137 (by kernel_rfl) rfl) (by simp) (prime_len (by omega)) (fun g cap W hW hI => ?_)
 have := primes1_calls g cap z W hI (by omega)
 rwa [decide_eq_false (by omega)] at this
set_option maxRecDepth 100000
set_option maxHeartbeats 4000000
structure PbI (w : World) (B bn r0 r1 r2 b1 b2 b3 : Nat) (pre : List (List UInt8)) (W : World) : Prop where
 n : ∃ v cs us, Bk W bn 34 #[v] ∧ W.ownsRow B 42 2 v pre.length cs ∧ allI pre = some us ∧ ObN W cs us
 r0 : Bk W r0 3 #[.int .i64 0]
 r1 : Bk W r1 34 #[.slice none 0 0]
 r2 : Bk W r2 35 #[.int .i64 0]
 s1 : ∃ cs, Bk W b1 9 cs
 s2 : ∃ cs, Bk W b2 9 cs
 s3 : ∃ cs, Bk W b3 3 cs
 h : Below w.heap.size w W
theorem TrP.pbi {P : TypeId → Prop} {w W Y : World} {B bn r0 r1 r2 b1 b2 b3 : Nat} {pre : List (List UInt8)} (h : TrP P W Y) (p1 : P 42) (p2 : P 81) (p3 : P 34) (p4 : P 35) (p5 : P 9) (p6 : P 3) (hb : Below w.heap.size w Y) (hi : PbI w B bn r0 r1 r2 b1 b2 b3 pre W) : PbI w B bn r0 r1 r2 b1 b2 b3 pre Y := by
 obtain ⟨⟨v, cs, us, q, ho, hu, hv⟩, h0, h1, h2, ⟨c1, s1⟩, ⟨c2, s2⟩, ⟨c3, s3⟩, _⟩ := hi
 exact ⟨⟨v, cs, us, h _ _ _ p3 q, h.own p1 ho, hu, h.obn p2 hv⟩, h _ _ _ p6 h0, h _ _ _ p3 h1, h _ _ _ p4 h2, ⟨c1, h _ _ _ p5 s1⟩, ⟨c2, h _ _ _ p5 s2⟩, ⟨c3, h _ _ _ p6 s3⟩, hb⟩
theorem pieces_count (c : UInt8) : ∀ l, (pieces c l).length ≤ l.length + 1
 | [] => by simp [pieces]
 | x :: l => by
  have ih := pieces_count c l
  simp only [pieces]
  split
  ·simp; omega
  ·split
   ·simp
   ·rename_i p ps h
    rw [h] at ih
    simp at ih ⊢
    omega
structure PbX (w : World) (r0 r1 r2 : Nat) (pre : List (List UInt8)) (W : World) : Prop where
 bad : ∃ x ∈ pre, parseI x = none
 r0 : Bk W r0 3 #[.int .i64 0]
 r1 : Bk W r1 34 #[.slice none 0 0]
 r2 : Bk W r2 35 #[.int .i64 320]
 h : Below w.heap.size w W
def RetParseN (i : Nat) (r : Option (List (Bool × Nat))) (w : World) (e : Ending) (w' : World) : Prop :=
 Below w.heap.size w w' ∧ match r with
  | some vs => if vs.length = cnts.getD i 0 then ∃ g cap, e = .returned (.tuple #[.int .i64 ((i + 1 : Nat) : Int), .slice (some ⟨g, 0, none⟩) vs.length cap, .int .i64 0]) ∧ IntsB w' g vs cap else e = .returned (.tuple #[.int .i64 0, .slice none 0 0, .int .i64 320])
  | none => e = .returned (.tuple #[.int .i64 0, .slice none 0 0, .int .i64 320])
section
attribute [local go_sem] Oper.semAt_some
theorem Parse_cut (s rest : List UInt8) (x0 : UInt8) (i : Nat) (w : World) (hG : Glob w) (hlen : s.length ≤ 80) (hrest : rest.length ≤ 80) (hcut : Lib.cut s [58] = ([x0], rest, true)) (hx : letrs.idxOf x0 = i) (hi : i < 10) :
  Calls prog 12 #[st s] w (RetParseN i (allI (pieces 58 rest)) w) := by
 have HCut := Hi (fun W (h : Glob W) => h.cutG s x0 rest hcut (by omega))
 have HIx := Hi (fun W => Tryz.strings_Index_one ⟨#[112, 102, 99, 104, 117, 121, 101, 111, 114, 115]⟩ x0 W)
 rw [show Lib.indexByte (⟨#[112, 102, 99, 104, 117, 121, 101, 111, 114, 115]⟩ : ByteArray).data.toList x0 = (i : Int) by
  rw [show (⟨#[112, 102, 99, 104, 117, 121, 101, 111, 114, 115]⟩ : ByteArray).data.toList = letrs from rfl, indexByte_idx, hx, if_pos (show i < letrs.length from hi)]] at HIx
 have HGl := Lib.hid hG
 have hl80 : decide ((s.length : Int) > 80) = false := by simp; omega
 have hk0 : (((i : Int) + 1) == 0) = false := by simp; omega
 have HR := Lib.hid hrest
 clear hG hlen hrest hcut hx
 have q0 := ((Bk.new w 3 #[.int .i64 0]).alloc (.cells #[.slice none 0 0] 34)).alloc (.cells #[.int .i64 0] 35)
 have q1 := (Bk.new (w.alloc (.cells #[.int .i64 0] 3)) 34 #[.slice none 0 0]).alloc (.cells #[.int .i64 0] 35)
 have q2 := Bk.new ((w.alloc (.cells #[.int .i64 0] 3)).alloc (.cells #[.slice none 0 0] 34)) 35 #[.int .i64 0]
 have hB0 := (((Below.refl w.heap.size w).alloc (Nat.le_refl _) (.cells #[.int .i64 0] 3)).alloc (by simp) (.cells #[.slice none 0 0] 34)).alloc (by simp; omega) (.cells #[.int .i64 0] 35)
 simp only [World.size_alloc] at q1 q2
 refine (callsIn_wide (n := 9)).1 ?_
 refine callsIn_of_wp_marks func12 rfl trivial ?_ rfl
 simp only [ntmps12, List.size_toArray, List.length_cons, List.length_nil, Nat.reduceAdd, Nat.reduceSub, Array.replicate_succ, Array.replicate_zero, List.push_toArray, List.append_toArray, List.nil_append, List.cons_append]
 gi_wp2_with fail
 generalize ((w.alloc _).alloc _).alloc _ = W1 at *
 refine atn ((HCut.out _ (HGl.out.kept hB0)).mono ?_)
 rintro e w2 ⟨rfl, hB2⟩
 have q0 := q0.kept hB2
 have q1 := q1.kept hB2
 have q2 := q2.kept hB2
 have hB := hB0.trans (hB2.mono hB0.size)
 clear hB0 hB2
 gi_wp2_with fail
 refine atn ((HIx.out _).mono ?_)
 rintro e w3 ⟨rfl, rfl⟩
 have qn := Bk.new w3 34 #[.slice none 0 0]
 have hal := (Below.refl w3.heap.size w3).alloc (Nat.le_refl _) (.cells #[.slice none 0 0] 34)
 have q0 := q0.kept hal
 have q1 := q1.kept hal
 have q2 := q2.kept hal
 have hl2' := q2.lt
 have hbn := q2.lt
 have hbz : w.heap.size + 1 + 1 < w3.heap.size := by
  rename_i qold _ _ _ _ _ _ _ _
  exact Bk.lt (by assumption)
 have hB := hB.trans (hal.mono hB.size)
 clear hal
 gi_wp2_with fail
 generalize w3.alloc _ = W6 at *
 generalize w3.heap.size = bn at *
 refine atn ((SplitSeq_calls rest 58 _).mono ?_)
 rintro e w6 ⟨rfl, s2, s1, s3, hB6⟩
 have q0 := q0.kept hB6
 have q1 := q1.kept hB6
 have q2 := q2.kept hB6
 have hbn2 := qn.lt
 have qn := qn.kept hB6
 have hs6 := hB6.size
 have hB := hB.trans (hB6.mono hB.size)
 clear hB6
 gi_wp2_with fail
 have hl1 := s1.lt
 have hl2 := s2.lt
 have hl3 := s3.lt
 refine rangeY (gf := 91) rfl (enters_of func91 (by kernel_rfl) rfl) hl1 hl2 hl3 (split1_seq _ _ _ _ 58 rest (by have := HR.out; omega) w6 (by omega) (by omega) s1 s2 s3) rfl
  (PbI w w6.heap.size bn w.heap.size (w.heap.size + 1) (w.heap.size + 1 + 1) (W6.heap.size + 1) W6.heap.size (W6.heap.size + 1 + 1)) (PbX w w.heap.size (w.heap.size + 1) (w.heap.size + 1 + 1))
  (fun pre X Y row hs hg hr => (trP_gb hg (fun r e => (hr r e).2)).pbi trivial trivial trivial trivial trivial trivial ((ownFrom_below (β := Unit) (Nat.le_refl _) hB.size) () X Y row hs.h hg hr) hs)
  (fun pre X Y row hs hg hr => let t := trP_gb hg (fun r e => (hr r e).2); ⟨hs.bad, t _ _ _ trivial hs.r0, t _ _ _ trivial hs.r1, t _ _ _ trivial hs.r2, (ownFrom_below (β := Unit) (Nat.le_refl _) hB.size) () X Y row hs.h hg hr⟩)
  (fun pre X v hs => ?_)
  ⟨⟨_, [], [], qn, ⟨rfl, .inl ⟨rfl, rfl⟩⟩, rfl, rfl, fun i x hx => by simp at hx⟩, q0, q1, q2, ⟨_, s1⟩, ⟨_, s2⟩, ⟨_, s3⟩, hB⟩
  (fun x => { tmps := #[st s, undef, .pointer (some ⟨w.heap.size, 0, none⟩), .pointer (some ⟨w.heap.size + 1, 0, none⟩), .pointer (some ⟨w.heap.size + 1 + 1, 0, none⟩), st [x0], st rest, .bool true, .int .i64 ((i : Int) + 1), .pointer (some ⟨bn, 0, none⟩), st x, undef, undef, .tuple #[st [x0], st rest, .bool true], st s, .tuple #[st [x0], st rest, .bool true], st [x0], st rest, .bool true, st [x0], .int .i64 i, .int .i64 ((i : Int) + 1), .bool true, .bool false, .bool false, st [x0], .int .i64 1, .bool false, .bool false, .bool false, st s, .int .i64 s.length, .bool false, .bool false, .bool false, .int .i64 ((i : Int) + 1), .bool false, .bool false, st rest, .func (.func 91) #[] #[.pointer (some ⟨W6.heap.size + 1, 0, none⟩), .pointer (some ⟨W6.heap.size, 0, none⟩), .pointer (some ⟨W6.heap.size + 1 + 1, 0, none⟩)], st x, undef, undef, undef, undef, undef, undef, undef, undef, undef, undef, undef, undef, undef, undef, undef, undef, undef, undef, undef, undef], defers := [] })
  (fun l x W K hK => ?_) (fun l pre x W hI hpre hsz => ?_) (fun D W hD hI hK => ?_) (fun D pre W hD hpre hX hK => ?_)
 ·obtain ⟨cs2, s2'⟩ := hs.s2
  obtain ⟨⟨v', cs, us, q, ho, hv0, hv⟩, h0, h1, h2, ⟨c1, s1'⟩, _, ⟨c3, s3'⟩, hb⟩ := hs
  have hT := trP_set s2' 0 v
  exact ⟨⟨v', cs, us, hT _ _ _ (by decide) q, hT.own (by decide) ho, hv0, hT.obn (by decide) hv⟩, hT _ _ _ (by decide) h0, hT _ _ _ (by decide) h1, hT _ _ _ (by decide) h2, ⟨c1, s1'.far (p := ⟨W6.heap.size, 0, none⟩) v (by simp)⟩, ⟨_, s2'.put 0 v⟩, ⟨c3, hT _ _ _ (by decide) s3'⟩, hb.setCell (p := ⟨W6.heap.size, 0, none⟩) (by simp; omega) v⟩
 ·gi_wp2_with fail
  exact hK
 ·have hx : x ∈ pieces 58 rest := hpre.subset (by simp)
  have hpl : pre.length ≤ 100 := by
   have h1 := hpre.length_le
   have h2 := pieces_count 58 rest
   have h3 := HR.out
   simp at h1
   omega
  have hxl : x.length ≤ 80 := Nat.le_trans (pieces_len 58 rest x hx) HR.out
  have HP := Hi (fun W' => Parse_calls x W' (by omega))
  have HI := Lib.hid hI
  clear hI hpre hx hxl
  cases hz : parseI x with
  | none =>
   have HZ := Lib.hid hz
   clear hz
   gi_wp2_with fail
   refine atr ((HP.out _).mono ?_)
   rintro e w7 ⟨hB7, hres⟩
   rw [HZ.out] at hres
   subst hres
   have hal := (Below.refl w7.heap.size w7).alloc (Nat.le_refl _) (.cells #[.bool false, .slice none 0 0] 42)
   have hB8 : Below W.heap.size W (w7.alloc (.cells #[.bool false, .slice none 0 0] 42)) := hB7.trans (hal.mono hB7.size)
   have hI8 := (trP_below hB8).pbi trivial trivial trivial trivial trivial trivial (HI.out.h.trans (hB8.mono HI.out.h.size)) HI.out
   have p0 := hI8.r0.cell 0
   have p1 := hI8.r1.cell 0
   have p2 := hI8.r2.cell 0
   have f0 := hI8.r0.frozen 0
   have f1 := hI8.r1.frozen 0
   have f2 := hI8.r2.frozen 0
   have l0 := hI8.r0.lt
   have l1 := hI8.r1.lt
   have l2 := hI8.r2.lt
   have HI8 := Hi (And.intro hI8 hB8)
   clear hal hB7 hI8 hB8
   dsimp only
   gi_wp2_with fail
   obtain ⟨hI8, hB8⟩ := HI8.out
   have a0 := ((hI8.r0.put 0 (.int .i64 0)).far (p := ⟨w.heap.size + 1, 0, none⟩) (.slice none 0 0) (by simp)).far (p := ⟨w.heap.size + 1 + 1, 0, none⟩) (.int .i64 320) (by simp; omega)
   have a1 := ((hI8.r1.far (p := ⟨w.heap.size, 0, none⟩) (.int .i64 0) (by simp)).put 0 (.slice none 0 0)).far (p := ⟨w.heap.size + 1 + 1, 0, none⟩) (.int .i64 320) (by simp)
   have a2 := ((hI8.r2.far (p := ⟨w.heap.size, 0, none⟩) (.int .i64 0) (by simp; omega)).far (p := ⟨w.heap.size + 1, 0, none⟩) (.slice none 0 0) (by simp)).put 0 (.int .i64 320)
   exact ⟨(keepsFrom_below hB8).trans (((KeepsOthers.setCell _ ⟨w.heap.size, 0, none⟩ _).from _).trans (((KeepsOthers.setCell _ ⟨w.heap.size + 1, 0, none⟩ _).from _).trans ((KeepsOthers.setCell _ ⟨w.heap.size + 1 + 1, 0, none⟩ _).from _))), ⟨x, by simp, HZ.out⟩, by simpa using a0, by simpa using a1, by simpa using a2, ((hI8.h.setCell (p := ⟨w.heap.size, 0, none⟩) (by simp) _).setCell (p := ⟨w.heap.size + 1, 0, none⟩) (by simp) _).setCell (p := ⟨w.heap.size + 1 + 1, 0, none⟩) (by simp; omega) _⟩
  | some v =>
   obtain ⟨sg, z⟩ := v
   have HZ := Lib.hid hz
   clear hz
   gi_wp2_with fail
   refine atr ((HP.out _).mono ?_)
   rintro e w7 ⟨hB7, hres⟩
   rw [HZ.out] at hres
   obtain ⟨m, rfl, hIv⟩ := hres
   rw [parseI_sg HZ.out]
   obtain ⟨Am, nm', cm, rfl⟩ := hIv.slice
   have hal := (Below.refl w7.heap.size w7).alloc (Nat.le_refl _) (.cells #[.bool sg, .slice Am nm' cm] 42)
   have hB8 : Below W.heap.size W (w7.alloc (.cells #[.bool sg, .slice Am nm' cm] 42)) := hB7.trans (hal.mono hB7.size)
   have q12 := Bk.new w7 42 #[.bool sg, .slice Am nm' cm]
   have hI8 := (trP_below hB8).pbi trivial trivial trivial trivial trivial trivial (HI.out.h.trans (hB8.mono HI.out.h.size)) HI.out
   have hIv8 := hIv.kept hal
   have hs8 : W.heap.size ≤ (w7.alloc (.cells #[.bool sg, .slice Am nm' cm] 42)).heap.size := hB8.size
   have hw7 : w7.heap.size < (w7.alloc (.cells #[.bool sg, .slice Am nm' cm] 42)).heap.size := by simp
   clear hal hB7 hIv
   dsimp only
   obtain ⟨v, cs, us, qn8, ho8, hu8, hv8⟩ := hI8.n
   have HU8 := Lib.hid hu8
   clear hu8
   have n0 := qn8.cell 0
   have nl := qn8.lt
   have z0 := q12.cell 0
   have z1 := q12.cell 1
   have zl := q12.lt
   have hal := (Below.refl (w7.alloc (.cells #[.bool sg, .slice Am nm' cm] 42)).heap.size (w7.alloc (.cells #[.bool sg, .slice Am nm' cm] 42))).alloc (Nat.le_refl _) (.cells #[.bool sg, .slice Am nm' cm] 42)
   have hI9 := (trP_below hal).pbi trivial trivial trivial trivial trivial trivial (hI8.h.trans (hal.mono hI8.h.size)) hI8
   have ho9 := (trP_below hal).own trivial ho8
   have hv9 := (trP_below hal).obn trivial hv8
   have qn9 := qn8.kept hal
   have hIv9 := hIv8.kept hal
   have HR9 := Hi (And.intro hI9 (And.intro ho9 (And.intro hv9 (And.intro qn9 hIv9))))
   have HB9 := Hi (hB8.trans (hal.mono hB8.size))
   have hsz9 : w6.heap.size ≤ ((w7.alloc (.cells #[.bool sg, .slice Am nm' cm] 42)).alloc (.cells #[.bool sg, .slice Am nm' cm] 42)).heap.size := by have := hal.size; omega
   clear hI8 hI9 hv8 hv9 qn8 qn9 hIv8 hIv9 hal hB8 q12 ho8
   gi_wp2_with (gi_at_builtin; go_must (refine appIn T_Ints rfl _ _ rfl w6.heap.size v pre.length cs rfl ho9 (w7.heap.size + 1) 0 1 1 [.bool sg, .slice Am nm' cm] rfl rfl (fun j u h => by simpa using cells_new (w7.alloc (.cells #[.bool sg, .slice Am nm' cm] 42)) [.bool sg, .slice Am nm' cm] 42 j u h) (fun u hu => by simp at hu; rcases hu with rfl | rfl <;> rfl) (by omega) (by omega) hsz9 ?_); intro v' X1 hown' hgrow _; obtain ⟨g', cap', rfl⟩ := own_some hown'; have hTr := trP_row hgrow (fun r e => (ownBlock_bk ho9 r e).2); have qb := hTr _ _ _ (by decide) HR9.out.2.2.2.1; have pb0 := qb.cell 0; have pbf := qb.frozen 0; have pbl := qb.lt)
   have hB9 := HB9.out
   have hrow := fun r e => (ownBlock_bk ho9 r e).2
   have hTs := trP_set qb 0 (.slice (some ⟨g', 0, none⟩) (pre.length + 1) cap')
   obtain ⟨hI9, _, hv9, _, hIv9⟩ := HR9.out
   obtain ⟨_, h09, h19, h29, ⟨c1, s19⟩, ⟨c2, s29⟩, ⟨c3, s39⟩, hb9⟩ := hI9
   have hlow : ∀ r, v.ownBlock = some r → w6.heap.size ≤ r := fun r e => (ownBlock_bk ho9 r e).1
   have hne : ∀ b, b < w6.heap.size → some b ≠ v.ownBlock := fun b hb e => by have := hlow b e.symm; omega
   have kp : ∀ b, b < w6.heap.size → b ≠ bn → ((X1.setCell ⟨bn, 0, none⟩ (.slice (some ⟨g', 0, none⟩) (pre.length + 1) cap')).heap[b]? = W.heap[b]?) := fun b hb hbn => (Below.heap_setCell _ _ _ _ (by simpa using hbn)).trans ((hgrow.block b (by omega) (hne b hb)).trans (hB9.block b (by omega)))
   refine ⟨(keepsFrom_below hB9).trans ((keepsFrom_row hgrow hrow).trans ((KeepsOthers.setCell X1 ⟨bn, 0, none⟩ _).from _)), ⟨kp _ (by omega) (by omega), kp _ (by omega) (by omega), kp _ (by omega) (by omega)⟩, ?_⟩
   have hf1 := (hTr _ _ _ (by decide) h19).far (p := ⟨bn, 0, none⟩) (.slice (some ⟨g', 0, none⟩) (pre.length + 1) cap') (by simp; omega)
   exact ⟨⟨_, _, us ++ [(sg, z)], qb.put 0 _, by simpa using hTs.own (by decide) hown', allI_snoc HU8.out HZ.out, hTs.obn (by decide) ((hTr.obn (by decide) hv9).snoc (hTr.iv (by decide) hIv9))⟩, hTs _ _ _ (by decide) (hTr _ _ _ (by decide) h09), hf1, hTs _ _ _ (by decide) (hTr _ _ _ (by decide) h29), ⟨c1, hTs _ _ _ (by decide) (hTr _ _ _ (by decide) s19)⟩, ⟨c2, hTs _ _ _ (by decide) (hTr _ _ _ (by decide) s29)⟩, ⟨c3, hTs _ _ _ (by decide) (hTr _ _ _ (by decide) s39)⟩, (hb9.grown hgrow (by have := hB.size; have := hB9.size; omega) (fun r e => Nat.le_trans hB.size (hlow r e))).setCell (by simp; omega) _⟩
 ·obtain ⟨⟨v, cs, us, qn, ho, hu, hv⟩, h0, h1, h2, _, _, _, hb⟩ := hI
  have hpl := allI_len hu
  have hpos := List.length_pos_iff.2 (pieces_ne 58 rest)
  rw [← hpl] at ho
  obtain ⟨g, cap, rfl, hgB, hI3⟩ := intsB_of rfl (by omega) ho hv
  have HU := Lib.hid hu
  have HI3 := Lib.hid hI3
  obtain ⟨nu, hnu⟩ : ∃ nu, nu = us.length := ⟨_, rfl⟩
  have HN := Lib.hid hnu
  rw [← hnu] at ho qn
  have n0 := qn.cell 0
  have nl := qn.lt
  have HQ := Hi (And.intro h0 (And.intro h1 (And.intro h2 hb)))
  have HK := Lib.hid hK
  have HC := Hi (fun W => counts_calls W)
  have hix : ∀ W : World, (Instr.index 75 cntV (.int .i64 (i : Nat))).run prog W = .ok (.int .i64 (cnts.getD i 0 : Nat)) W := fun W => run_cnt i hi W
  obtain ⟨ci, hci⟩ : ∃ ci, ci = cnts.getD i 0 := ⟨_, rfl⟩
  have HCi := Lib.hid hci
  rw [← hci] at hix
  have hwi : IntKind.i64.wrap (i : Int) = (i : Int) := IntWalk.i64_in _ ⟨by omega, by omega⟩
  clear ho hu hv h0 h1 h2 hb hI3 hnu hK hci
  gi_wp2_with fail
  refine wpIn_wide.2 (wp_normal ?_)
  refine rgS W (fun hN => ?_)
  refine tkH 0 rfl ?_; go_simp
  refine tkH 1 rfl ?_; go_simp
  refine tkH 3 rfl ?_; go_simp
  refine tkH 4 rfl ?_; go_simp
  refine rdH 2 rfl (fun K hK => ?_)
  go_simp
  refine (HC.out _).mono ?_
  rintro e w8 ⟨rfl, hb8⟩
  refine hK.out _ _ (sk_step hN hb8) (fun hN => ?_); clear hK K; go_simp
  refine tkH 5 (v := .int .i64 ci) rfl ?_ (fun w' _ => by go_simp); go_simp
  refine tkH 6 rfl ?_; go_simp
  refine Hn ?_
  have hb9 := hN.2
  have HQ := Hi (And.intro (HQ.out.1.kept hb9) (And.intro (HQ.out.2.1.kept hb9) (And.intro (HQ.out.2.2.1.kept hb9) (HQ.out.2.2.2.trans (hb9.mono HQ.out.2.2.2.size)))))
  have HK := Hi ((hb9.block D (Array.getElem?_eq_some_iff.1 HK.out).1).trans HK.out)
  have HI3 := Hi (HI3.out.kept hb9)
  have qn := qn.kept hb9
  clear hN hb9 hb8 n0 nl hix
  have n0 := qn.cell 0
  have nl := qn.lt
  have p0 := HQ.out.1.cell 0
  have p1 := HQ.out.2.1.cell 0
  have p2 := HQ.out.2.2.1.cell 0
  have f0 := HQ.out.1.frozen 0
  have f1 := HQ.out.2.1.frozen 0
  have f2 := HQ.out.2.2.1.frozen 0
  have l0 := HQ.out.1.lt
  have l1 := HQ.out.2.1.lt
  have l2 := HQ.out.2.2.1.lt
  by_cases he : nu = ci
  ·have hne : ((nu : Int) != (ci : Int)) = false := by simp [he]
   have HE := Lib.hid he
   clear he
   gi_wp2_with fail
   refine wpIn_wide.2 ?_
   go_region
   gi_wp2_with fail
   obtain ⟨h0, h1, h2, hb⟩ := HQ.out
   have kD : (((w8.setCell ⟨w.heap.size, 0, none⟩ (.int .i64 ((i : Int) + 1))).setCell ⟨w.heap.size + 1, 0, none⟩ (.slice (some ⟨g, 0, none⟩) nu cap)).setCell ⟨w.heap.size + 1 + 1, 0, none⟩ (.int .i64 0)).heap[D]? = some (.deferred (some [])) := (Below.heap_setCell _ _ _ _ (by simp; omega)).trans ((Below.heap_setCell _ _ _ _ (by simp; omega)).trans ((Below.heap_setCell _ _ _ _ (by simp; omega)).trans HK.out))
   have a0 := ((h0.put 0 (.int .i64 ((i : Int) + 1))).far (p := ⟨w.heap.size + 1, 0, none⟩) (.slice (some ⟨g, 0, none⟩) nu cap) (by simp)).far (p := ⟨w.heap.size + 1 + 1, 0, none⟩) (.int .i64 0) (by simp; omega)
   have a1 := ((h1.far (p := ⟨w.heap.size, 0, none⟩) (.int .i64 ((i : Int) + 1)) (by simp)).put 0 (.slice (some ⟨g, 0, none⟩) nu cap)).far (p := ⟨w.heap.size + 1 + 1, 0, none⟩) (.int .i64 0) (by simp)
   have a2 := ((h2.far (p := ⟨w.heap.size, 0, none⟩) (.int .i64 ((i : Int) + 1)) (by simp; omega)).far (p := ⟨w.heap.size + 1, 0, none⟩) (.slice (some ⟨g, 0, none⟩) nu cap) (by simp)).put 0 (.int .i64 0)
   have hbz := ((hb.setCell (p := ⟨w.heap.size, 0, none⟩) (by simp) (.int .i64 ((i : Int) + 1))).setCell (p := ⟨w.heap.size + 1, 0, none⟩) (by simp) (.slice (some ⟨g, 0, none⟩) nu cap)).setCell (p := ⟨w.heap.size + 1 + 1, 0, none⟩) (by simp; omega) (.int .i64 0)
   have hIz := ((HI3.out.tr (trP_set h0 0 (.int .i64 ((i : Int) + 1))) (by decide) (by decide)).tr (trP_set (h1.far (p := ⟨w.heap.size, 0, none⟩) (.int .i64 ((i : Int) + 1)) (by simp)) 0 (.slice (some ⟨g, 0, none⟩) nu cap)) (by decide) (by decide)).tr (trP_set ((h2.far (p := ⟨w.heap.size, 0, none⟩) (.int .i64 ((i : Int) + 1)) (by simp; omega)).far (p := ⟨w.heap.size + 1, 0, none⟩) (.slice (some ⟨g, 0, none⟩) nu cap) (by simp)) 0 (.int .i64 0)) (by decide) (by decide)
   generalize (((w8.setCell ⟨w.heap.size, 0, none⟩ (.int .i64 ((i : Int) + 1))).setCell ⟨w.heap.size + 1, 0, none⟩ (.slice (some ⟨g, 0, none⟩) nu cap)).setCell ⟨w.heap.size + 1 + 1, 0, none⟩ (.int .i64 0)) = Z at *
   have kD : Z.drew.heap[D]? = some (.deferred (some [])) := kD
   have hdr := (Below.refl Z.heap.size Z).drew
   have a0 := a0.kept hdr
   have a1 := a1.kept hdr
   have a2 := a2.kept hdr
   have hIz := hIz.kept hdr
   have hbz := hbz.trans (hdr.mono hbz.size)
   generalize Z.drew = Z at *
   refine ⟨by simp, .inl ⟨_, _, rfl, run_takeDeferred kD, ?_⟩⟩
   have t := trP_put (o := .deferred none) kD
   have x0 := (t _ _ _ trivial a0).cell 0
   have x1 := (t _ _ _ trivial a1).cell 0
   have x2 := (t _ _ _ trivial a2).cell 0
   refine ⟨.tuple #[.int .i64 ((i : Int) + 1), .slice (some ⟨g, 0, none⟩) nu cap, .int .i64 0], by simp [results, results12, go_sem, x0, x1, x2], hbz.trans (belowK_b (w := w) (Nat.le_refl _) _ D _ _ (by omega) kD rfl rfl), ?_⟩
   rw [HU.out]
   simp only [← HN.out, HE.out, HCi.out, if_true]
   exact ⟨g, cap, rfl, hIz.tr t trivial trivial⟩
  ·have hne : ((nu : Int) != (ci : Int)) = true := by simp; omega
   have HE := Lib.hid he
   clear he
   gi_wp2_with fail
   obtain ⟨h0, h1, h2, hb⟩ := HQ.out
   have kD : (((w8.setCell ⟨w.heap.size, 0, none⟩ (.int .i64 0)).setCell ⟨w.heap.size + 1, 0, none⟩ (.slice none 0 0)).setCell ⟨w.heap.size + 1 + 1, 0, none⟩ (.int .i64 320)).heap[D]? = some (.deferred (some [])) := (Below.heap_setCell _ _ _ _ (by simp; omega)).trans ((Below.heap_setCell _ _ _ _ (by simp; omega)).trans ((Below.heap_setCell _ _ _ _ (by simp; omega)).trans HK.out))
   have a0 := ((h0.put 0 (.int .i64 0)).far (p := ⟨w.heap.size + 1, 0, none⟩) (.slice none 0 0) (by simp)).far (p := ⟨w.heap.size + 1 + 1, 0, none⟩) (.int .i64 320) (by simp; omega)
   have a1 := ((h1.far (p := ⟨w.heap.size, 0, none⟩) (.int .i64 0) (by simp)).put 0 (.slice none 0 0)).far (p := ⟨w.heap.size + 1 + 1, 0, none⟩) (.int .i64 320) (by simp)
   have a2 := ((h2.far (p := ⟨w.heap.size, 0, none⟩) (.int .i64 0) (by simp; omega)).far (p := ⟨w.heap.size + 1, 0, none⟩) (.slice none 0 0) (by simp)).put 0 (.int .i64 320)
   have hbz := ((hb.setCell (p := ⟨w.heap.size, 0, none⟩) (by simp) (.int .i64 0)).setCell (p := ⟨w.heap.size + 1, 0, none⟩) (by simp) (.slice none 0 0)).setCell (p := ⟨w.heap.size + 1 + 1, 0, none⟩) (by simp; omega) (.int .i64 320)
   have hIz := ((HI3.out.tr (trP_set h0 0 (.int .i64 0)) (by decide) (by decide)).tr (trP_set (h1.far (p := ⟨w.heap.size, 0, none⟩) (.int .i64 0) (by simp)) 0 (.slice none 0 0)) (by decide) (by decide)).tr (trP_set ((h2.far (p := ⟨w.heap.size, 0, none⟩) (.int .i64 0) (by simp; omega)).far (p := ⟨w.heap.size + 1, 0, none⟩) (.slice none 0 0) (by simp)) 0 (.int .i64 320)) (by decide) (by decide)
   generalize (((w8.setCell ⟨w.heap.size, 0, none⟩ (.int .i64 0)).setCell ⟨w.heap.size + 1, 0, none⟩ (.slice none 0 0)).setCell ⟨w.heap.size + 1 + 1, 0, none⟩ (.int .i64 320)) = Z at *
   refine ⟨by simp, .inl ⟨_, _, rfl, run_takeDeferred kD, ?_⟩⟩
   have t := trP_put (o := .deferred none) kD
   have x0 := (t _ _ _ trivial a0).cell 0
   have x1 := (t _ _ _ trivial a1).cell 0
   have x2 := (t _ _ _ trivial a2).cell 0
   refine ⟨.tuple #[.int .i64 0, .slice none 0 0, .int .i64 320], by simp [results, results12, go_sem, x0, x1, x2], hbz.trans (belowK_b (w := w) (Nat.le_refl _) _ D _ _ (by omega) kD rfl rfl), ?_⟩
   rw [HU.out]
   simp only
   rw [if_neg (by rw [← HN.out, ← HCi.out]; exact HE.out)]
   trivial
 ·gi_wp2_with fail
  have hwD : w.heap.size + 1 + 1 < D := by omega
  refine ⟨by simp, .inl ⟨_, _, rfl, run_takeDeferred hK, ?_⟩⟩
  have t := trP_put (o := .deferred none) hK
  have x0 := (t _ _ _ trivial hX.r0).cell 0
  have x1 := (t _ _ _ trivial hX.r1).cell 0
  have x2 := (t _ _ _ trivial hX.r2).cell 0
  obtain ⟨x, hx, hn⟩ := hX.bad
  refine ⟨.tuple #[.int .i64 0, .slice none 0 0, .int .i64 320], by simp [results, results12, go_sem, x0, x1, x2], hX.h.trans (belowK_b (w := w) (Nat.le_refl _) W D _ _ (by omega) hK rfl rfl), ?_⟩
  rw [allI_bad hn (hpre.subset hx)]
end
end Go.Proofs.YthjilnnmahcnpaaGreatDoor
