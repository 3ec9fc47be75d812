/- Contract of the reference's adding of an entry to a shelf. Shelves in memory whose entries may need the hypothesis 1. Contract of the reference's adding of an entry to a shelf, where entries may need the hypothesis 1. -/
import Derived.Test.YtfmjapfncjmcoaaGreatDoorKDMF
import Derived.Deep.Cut
set_option maxRecDepth 100000
set_option maxHeartbeats 32000000
namespace Go.Proofs.YtfmjapfncjmcoaaGreatDoor
open Go.RowKit
theorem sb_start (w : World) {B : Nat} (_ : B ≤ w.heap.size) : (∀ b o, b < B → w.drew.cell? ⟨b, o, none⟩ = w.cell? ⟨b, o, none⟩) ∧ Below B w w.drew := ⟨fun _ _ _ => rfl, (Below.refl _ _).drew⟩
theorem sb_step {w W w1 : World} {B : Nat} (h : (∀ b o, b < B → W.cell? ⟨b, o, none⟩ = w.cell? ⟨b, o, none⟩) ∧ Below B w W) (hB : B ≤ w.heap.size) (hb : Below W.heap.size W w1) :
  (∀ b o, b < B → w1.cell? ⟨b, o, none⟩ = w.cell? ⟨b, o, none⟩) ∧ Below B w w1 := by
 have h2 := h.2.trans (hb.mono (Nat.le_trans hB h.2.size))
 exact ⟨fun b o hlt => h2.cell (p := ⟨b, o, none⟩) hlt, h2⟩
theorem sb_grown {w W w1 : World} {B : Nat} {row : Option Nat} (h : (∀ b o, b < B → W.cell? ⟨b, o, none⟩ = w.cell? ⟨b, o, none⟩) ∧ Below B w W) (hB : B ≤ w.heap.size) (hg : W.grownBy w1 row) (hr : ∀ k, row = some k → B ≤ k) :
  (∀ b c, b < B → w1.cell? ⟨b, c, none⟩ = w.cell? ⟨b, c, none⟩) ∧ Below B w w1 := by
 have h2 := h.2.grown hg (Nat.le_trans hB h.2.size) hr
 exact ⟨fun b c hlt => h2.cell (p := ⟨b, c, none⟩) hlt, h2⟩
theorem cells_new1 (w : World) (o : Obj) (cs : List Value) (t : TypeId) : ∀ j u, cs[j]? = some u → ((w.alloc o).alloc (.cells cs.toArray t)).cell? ⟨w.heap.size + 1, 0 + j, none⟩ = some u := by
 have := cells_new (w.alloc o) cs t
 rwa [World.size_alloc] at this
end Go.Proofs.YtfmjapfncjmcoaaGreatDoor
namespace Go.Proofs.YtfmjapfncjmcoaaGreatDoor.G
open Go.RowKit Go.Proofs.YtfmjapfncjmcoaaGreatDoor
abbrev Lb : Type := List UInt8 × Bool
def hyp (b : Bool) : List Nat := if b = true then [1] else []
theorem hyp_or (b : Bool) : hyp b = [] ∨ hyp b = [1] := by cases b <;> simp [hyp]
theorem hyp_inj {a b : Bool} (h : hyp a = hyp b) : a = b := by cases a <;> cases b <;> simp_all [hyp]
def RdH (w : World) (v : Value) (b : Bool) : Prop := (b = false ∧ v = .slice none 0 0) ∨ (b = true ∧ ∃ g, v = .slice (some ⟨g, 0, none⟩) 1 1 ∧ Bk w g 3 #[.int .i64 1])
theorem RdH.kept {w w' : World} {v : Value} {b : Bool} (h : RdH w v b) (hb : Below w.heap.size w w') : RdH w' v b := by
 rcases h with h | ⟨h1, g, h2, h3⟩
 ·exact .inl h
 ·exact .inr ⟨h1, g, h2, h3.kept hb⟩
theorem RdH.one {w : World} {v : Value} {b : Bool} (h : RdH w v b) : v.oneCell' = true := by
 rcases h with ⟨_, rfl⟩ | ⟨_, g, rfl, _⟩ <;> rfl
theorem RdH.far {w : World} {v : Value} {b : Bool} {g : Nat} {t : TypeId} {cs : Array Value} (h : RdH w v b) (q : Bk w g t cs) (ht : t ≠ 3) (i : Nat) (u : Value) : RdH (w.setCell ⟨g, i, none⟩ u) v b := by
 rcases h with h | ⟨h1, g', h2, h3⟩
 ·exact .inl h
 ·exact .inr ⟨h1, g', h2, h3.far _ (Bk.ne h3 q (Ne.symm ht))⟩
theorem RdH.rdN {w : World} {v : Value} {b : Bool} (h : RdH w v b) : RdN w w.heap.size v (hyp b) := by
 rcases h with ⟨rfl, rfl⟩ | ⟨rfl, g, rfl, q⟩
 ·exact .inl ⟨rfl, rfl⟩
 ·refine .inr ⟨g, 0, 1, rfl, by simp [hyp], fun w' hb j u hu => ?_⟩
  rw [(q.kept hb).cell, Nat.zero_add]
  match j, hu with
  | 0, hu => simp [hyp] at hu; subst hu; rfl
  | j + 1, hu => simp [hyp] at hu
theorem RdH.slice {w : World} {v : Value} {b : Bool} (h : RdH w v b) : ∃ A n c, v = .slice A n c := by
 rcases h with ⟨_, rfl⟩ | ⟨_, g, rfl, _⟩
 ·exact ⟨_, _, _, rfl⟩
 ·exact ⟨_, _, _, rfl⟩
structure EntOk (w : World) (m : Nat) (h : List Value) (nm : Lb) : Prop where
 ex : ∃ va hy k sg scap sl, h = entC nm.1 va hy ++ [.slice (some ⟨sg, 0, none⟩) (List.length sl) scap] ∧ RdT w va k ∧ k.length ≤ 1 ∧ (∀ x ∈ k, x.2.length ≤ 1000) ∧ SrcT w sg scap sl ∧ sl.length ≤ m ∧ RdH w hy nm.2
 short : nm.1.length ≤ 1000
theorem EntOk.len {w : World} {m : Nat} {h : List Value} {nm : Lb} (e : EntOk w m h nm) : h.length = 32 := by
 obtain ⟨va, hy, k, sg, scap, sl, rfl, _⟩ := e.ex
 simp [entC_len]
theorem EntOk.one {w : World} {m : Nat} {h : List Value} {nm : Lb} (e : EntOk w m h nm) : ∀ u ∈ h, u.oneCell' = true := by
 obtain ⟨va, hy, k, sg, scap, sl, rfl, hI, _, _, _, _, hH⟩ := e.ex
 intro u hu
 rcases List.mem_append.1 hu with hu | hu
 ·exact entC_one nm.1 va _ hI.one hH.one u hu
 ·simp at hu; subst hu; rfl
theorem EntOk.kept {w w' : World} {m m' : Nat} {h : List Value} {nm : Lb} (e : EntOk w m h nm) (hb : Below w.heap.size w w') (hm : m ≤ m') : EntOk w' m' h nm := by
 obtain ⟨va, hy, k, sg, scap, sl, rfl, hI, h1, h2, h3, h4, hH⟩ := e.ex
 exact ⟨⟨va, hy, k, sg, scap, sl, rfl, hI.kept hb, h1, h2, h3.kept hb, by omega, hH.kept hb⟩, e.short⟩
theorem EntOk.opens {w : World} {m : Nat} {h : List Value} {s : Lb} (e : EntOk w m h s) : ∃ C sg scap sl, C.length = 31 ∧ h = C ++ [.slice (some ⟨sg, 0, none⟩) (List.length sl) scap] ∧ SrcT w sg scap sl ∧ sl.length ≤ m ∧
  ∀ (nm : Lb) va hy k W, RdT w va k → RdH w hy nm.2 → k.length ≤ 1 → (∀ x ∈ k, x.2.length ≤ 1000) → Below w.heap.size w W →
   Calls Tryz.prog 34 #[.agg (List.toArray C), .agg (entC nm.1 va hy).toArray] W fun r w' => ∃ c : Int, r = .returned (.int .i64 c) ∧ (c = 0 → s = nm) ∧ Below W.heap.size W w' := by
 obtain ⟨va', hy', k', sg, scap, sl, rfl, hI', h1, h2, h3, h4, hH'⟩ := e.ex
 refine ⟨entC s.1 va' hy', sg, scap, sl, rfl, rfl, h3, h4, fun nm va hy k W hI hH hk hks hb => ?_⟩
 refine (Compare_calls s.1 nm.1 va' hy' va hy k' k (hyp s.2) (hyp nm.2) W (Lib.hid h2) (Lib.hid hks) (hI'.kept hb).rdI h1 (hH'.kept hb).rdN (hyp_or _) (hI.kept hb).rdI hk (hH.kept hb).rdN (hyp_or _)).mono ?_
 rintro r w' ⟨c, rfl, hc, hB⟩
 exact ⟨c, rfl, fun h0 => Prod.ext (hc h0).1 (hyp_inj (hc h0).2.2), hB⟩
def ShE (w : World) (m : Nat) (v : Value) (hs : List (List Value)) (ns : List Lb) : Prop :=
 hs.length = ns.length ∧ (∀ (k : Nat) (h : List Value) (s : Lb), hs[k]? = some h → ns[k]? = some s → EntOk w m h s) ∧
 ((v = .slice none 0 0 ∧ hs = []) ∨ ∃ g cap cur, v = .slice (some ⟨g, 0, none⟩) hs.length cap ∧ Bk w g 123 cur ∧ hs.length ≤ cap ∧ cap ≤ maxLen ∧ ∀ (j : Nat) (u : Value), hs.flatten[j]? = some u → cur[j]? = some u)
theorem ShE.kept {w w' : World} {m : Nat} {v : Value} {hs : List (List Value)} {ns : List Lb} (h : ShE w m v hs ns) (hb : Below w.heap.size w w') : ShE w' m v hs ns := by
 obtain ⟨h1, h2, h3⟩ := h
 refine ⟨h1, fun k a s ha hs => (h2 k a s ha hs).kept hb (Nat.le_refl _), h3.imp id ?_⟩
 rintro ⟨g, cap, cur, hv, hg, hc, hm, hf⟩
 exact ⟨g, cap, cur, hv, hg.kept hb, hc, hm, hf⟩
theorem EntOk.far {w : World} {m : Nat} {h : List Value} {nm : Lb} {b : Nat} {cs : Array Value} (e : EntOk w m h nm) (q : Bk w b 40 cs) (i : Nat) (u : Value) : EntOk (w.setCell ⟨b, i, none⟩ u) m h nm := by
 obtain ⟨va, hy, k, sg, scap, sl, rfl, hI, h1, h2, h3, h4, hH⟩ := e.ex
 exact ⟨⟨va, hy, k, sg, scap, sl, rfl, hI.far q (by decide) (by decide) i u, h1, h2, h3.far q (by decide) i u, h4, hH.far q (by decide) i u⟩, e.short⟩
theorem ShE.far {w : World} {m b : Nat} {v : Value} {hs : List (List Value)} {ns : List Lb} {cs : Array Value} (h : ShE w m v hs ns) (q : Bk w b 40 cs) (i : Nat) (u : Value) : ShE (w.setCell ⟨b, i, none⟩ u) m v hs ns := by
 obtain ⟨h1, h2, h3⟩ := h
 refine ⟨h1, fun k a s ha hs => (h2 k a s ha hs).far q i u, h3.imp id ?_⟩
 rintro ⟨g, cap, cur, hv, hg, hc⟩
 exact ⟨g, cap, cur, hv, hg.far _ (Bk.ne hg q (by decide)), hc⟩
theorem ShE.more {w : World} {m m' : Nat} {v : Value} {hs : List (List Value)} {ns : List Lb} (h : ShE w m v hs ns) (hm : m ≤ m') : ShE w m' v hs ns :=
 ⟨h.1, fun k a s ha hs => (h.2.1 k a s ha hs).kept (Below.refl _ _) hm, h.2.2⟩
theorem ShE.nil (w : World) (m : Nat) : ShE w m (.slice none 0 0) [] [] := ⟨rfl, fun k h s hh => by simp at hh, .inl ⟨rfl, rfl⟩⟩
theorem ShE.ent {w : World} {m : Nat} {v : Value} {hs : List (List Value)} {ns : List Lb} (h : ShE w m v hs ns) (a : List Value) (ha : a ∈ hs) : ∃ s, EntOk w m a s := by
 obtain ⟨k, hk⟩ := List.getElem?_of_mem ha
 have hlt : k < ns.length := by rw [← h.1]; exact (List.getElem?_eq_some_iff.1 hk).1
 exact ⟨ns[k], h.2.1 k a ns[k] hk (List.getElem?_eq_getElem hlt)⟩
theorem ShE.len {w : World} {m : Nat} {v : Value} {hs : List (List Value)} {ns : List Lb} (h : ShE w m v hs ns) : ∀ a ∈ hs, a.length = 32 := fun a ha => (h.ent a ha).choose_spec.len
theorem ShE.one {w : World} {m : Nat} {v : Value} {hs : List (List Value)} {ns : List Lb} (h : ShE w m v hs ns) : ∀ u ∈ hs.flatten, u.oneCell' = true := fun u hu => by
 obtain ⟨a, ha, hu⟩ := List.mem_flatten.1 hu
 exact (h.ent a ha).choose_spec.one u hu
theorem ShE.ins {w w' : World} {m base j d n' g cap : Nat} {v : Value} {hs : List (List Value)} {ns : List Lb} {h : List Value} {nm : Lb} (hS : ShE w m v hs ns) (hb : Below w.heap.size w w') (hj : j ≤ hs.length)
  (he : EntOk w' (m + 1) h nm) (hd : d = 0 ∨ (d = 1 ∧ ns[j]? = some nm)) (hn' : n' = (hs.take j ++ [h] ++ hs.drop (j + d)).length)
  (ho : w'.ownsRow base 123 32 (.slice (some ⟨g, 0, none⟩) n' cap) n' ((hs.take j).flatten ++ h ++ (hs.drop (j + d)).flatten)) :
  ∃ hs' ns', ShE w' (m + 1) (.slice (some ⟨g, 0, none⟩) n' cap) hs' ns' ∧ (∀ s, s ∈ ns' ↔ s ∈ ns ∨ s = nm) ∧ ns'.length ≤ ns.length + 1 := by
 have hl := hS.1
 have hc := own_cap ho
 obtain ⟨cur, qg⟩ : ∃ cur, Bk w' g 123 cur := by
  rcases ho.2 with ⟨h0, _⟩ | ⟨g', cap', cur, hv, _, hh, _⟩
  ·cases h0
  ·injection hv with e1 e2 e3
   injection e1 with e1
   injection e1 with e1
   subst e1
   exact ⟨cur, hh⟩
 refine ⟨hs.take j ++ [h] ++ hs.drop (j + d), ns.take j ++ [nm] ++ ns.drop (j + d), ⟨by simp [hl], fun k a s ha hs' => ?_, .inr ⟨g, cap, cur, by rw [hn'], qg, by omega, hc.2, fun i u hu => ?_⟩⟩, fun s => ?_, ?_⟩
 ·rcases Nat.lt_trichotomy k j with hk | hk | hk
  ·rw [List.append_assoc, List.getElem?_append_left (by simp; omega), List.getElem?_take_of_lt hk] at ha hs'
   exact (hS.2.1 k a s ha hs').kept hb (by omega)
  ·subst hk
   rw [List.append_assoc, List.getElem?_append_right (by simp; omega), show k - (hs.take k).length = 0 by simp; omega] at ha
   rw [List.append_assoc, List.getElem?_append_right (by simp; omega), show k - (ns.take k).length = 0 by simp; omega] at hs'
   simp at ha hs'
   subst ha hs'
   exact he
  ·rw [List.getElem?_append_right (by simp; omega), List.getElem?_drop] at ha hs'
   have e1 : (hs.take j ++ [h]).length = j + 1 := by simp; omega
   have e2 : (ns.take j ++ [nm]).length = j + 1 := by simp; omega
   rw [e1] at ha
   rw [e2] at hs'
   exact (hS.2.1 _ a s ha hs').kept hb (by omega)
 ·have := ho.cellAt i (by
   have h1 := (List.getElem?_eq_some_iff.1 hu).1
   have hlen : ∀ a ∈ hs.take j ++ [h] ++ hs.drop (j + d), a.length = 32 := by
    intro a ha
    simp only [List.mem_append, List.mem_cons, List.not_mem_nil, or_false] at ha
    rcases ha with (ha | rfl) | ha
    ·exact hS.len a (List.mem_of_mem_take ha)
    ·exact he.len
    ·exact hS.len a (List.mem_of_mem_drop ha)
   rw [flat_len _ hlen, ← hn'] at h1
   exact h1)
  rw [← qg.cell, this]
  simpa using hu
 ·constructor
  ·intro h0
   simp only [List.mem_append, List.mem_cons, List.not_mem_nil, or_false] at h0
   rcases h0 with (h0 | h0) | h0
   ·exact .inl (List.mem_of_mem_take h0)
   ·exact .inr h0
   ·exact .inl (List.mem_of_mem_drop h0)
  ·rintro (h0 | rfl)
   ·simp only [List.mem_append, List.mem_cons, List.not_mem_nil, or_false]
    obtain ⟨k, hk⟩ := List.getElem?_of_mem h0
    rcases Nat.lt_or_ge k j with h1 | h1
    ·exact .inl (.inl (List.mem_of_getElem? (i := k) (by rw [List.getElem?_take_of_lt h1]; exact hk)))
    ·rcases hd with rfl | ⟨rfl, hd⟩
     ·exact .inr (List.mem_of_getElem? (i := k - j) (by rw [List.getElem?_drop, show j + 0 + (k - j) = k by omega]; exact hk))
     ·rcases Nat.eq_or_lt_of_le h1 with h2 | h2
      ·subst h2
       rw [hk] at hd
       injection hd with hd
       exact .inl (.inr hd)
      ·exact .inr (List.mem_of_getElem? (i := k - (j + 1)) (by rw [List.getElem?_drop, show j + 1 + (k - (j + 1)) = k by omega]; exact hk))
   ·simp
 ·simp only [List.length_append, List.length_take, List.length_cons, List.length_nil, List.length_drop]
  omega
def RetShelf (w : World) (m : Nat) (ns : List Lb) (nm : Lb) (e : Ending) (w' : World) : Prop :=
 ∃ v' hs' ns', e = .returned (.agg #[v']) ∧ ShE w' (m + 1) v' hs' ns' ∧ (∀ s, s ∈ ns' ↔ s ∈ ns ∨ s = nm) ∧ ns'.length ≤ ns.length + 1 ∧ Below w.heap.size w w'
theorem held_one {E : List Value} {nm : List UInt8} {va hy : Value} (hE : E = entC nm va hy) (hv : va.oneCell' = true) (hh : hy.oneCell' = true) (A : Option Addr) (n c : Nat) : ∀ u ∈ E ++ [(.slice A n c : Value)], u.oneCell' = true := by
 subst hE
 intro u hu
 rcases List.mem_append.1 hu with hu | hu
 ·exact entC_one nm va hy hv hh u hu
 ·simp at hu; subst hu; rfl
theorem held_of {E : List Value} {nm : List UInt8} {va hy : Value} (hE : E = entC nm va hy) (A : Option Addr) (n c : Nat) (w : World) :
  (Instr.build 123 #[(0, (.agg E.toArray : Value)), (1, (.slice A n c : Value))]).run Tryz.prog w = .ok (.agg (E ++ [(.slice A n c : Value)]).toArray) w := by
 subst hE; exact run_buildHeld ..
theorem bsl_of {E H : List Value} {nm : List UInt8} {va hy sv : Value} (hE : E = entC nm va hy) (hH : H = E ++ [sv]) (w : World) :
  (Instr.buildSlice 38 1 #[(0, (.agg H.toArray : Value))]).run Tryz.prog w = .ok (.slice (some ⟨w.heap.size, 0, none⟩) 1 1) (w.alloc (.cells H.toArray 123)) := by
 subst hH; subst hE; exact run_bslHeld ..
theorem ent_of {E : List Value} {w : World} {m sg scap : Nat} {sl : List (Int × Int × Int)} {nm : Lb} {va hy : Value} {k : List (Bool × List Nat)} (hE : E = entC nm.1 va hy) (hI : RdT w va k) (hH : RdH w hy nm.2) (hk : k.length ≤ 1) (hks : ∀ x ∈ k, x.2.length ≤ 1000) (hS : SrcT w sg scap sl) (hl : sl.length ≤ m) (hn : nm.1.length ≤ 1000) :
  EntOk w m (E ++ [.slice (some ⟨sg, 0, none⟩) (List.length sl) scap]) nm := by
 subst hE; exact ⟨⟨va, hy, k, sg, scap, sl, rfl, hI, hk, hks, hS, hl, hH⟩, hn⟩
theorem Add_some (g cap m n : Nat) (hs : List (List Value)) (ns : List Lb) (nm : Lb) (va hy : Value) (k : List (Bool × List Nat)) (x1 x2 x3 : Int) (w : World) (hS : ShE w m (.slice (some ⟨g, 0, none⟩) n cap) hs ns) (hn : hs.length = n)
  (hI : RdT w va k) (hH : RdH w hy nm.2) (hk : k.length ≤ 1) (hks : ∀ x ∈ k, x.2.length ≤ 1000) (hnm : nm.1.length ≤ 1000) (hm : m ≤ 2000000) (hl : n ≤ 2000000) :
  Calls Tryz.prog 14 #[.agg #[.slice (some ⟨g, 0, none⟩) n cap], .agg (entC nm.1 va hy).toArray, sr (x1, x2, x3)] w (RetShelf w m ns nm) := by
 obtain ⟨hgl, hcl, hcm, hf⟩ : g < w.heap.size ∧ n ≤ cap ∧ cap ≤ maxLen ∧ ∀ j u, hs.flatten[j]? = some u → w.cell? ⟨g, j, none⟩ = some u := by
  rcases hS.2.2 with ⟨h0, _⟩ | ⟨g', cap', cur, hv, h1, h2, h3, h4⟩
  ·cases h0
  ·injection hv with e1 e2 e3
   injection e1 with e1
   injection e1 with e1
   subst e1 e3
   exact ⟨h1.lt, by omega, h3, fun j u hu => by rw [h1.cell]; exact h4 j u hu⟩
 unfold maxLen at hcm
 have HS := Lib.hid hS
 have Hn := Lib.hid hn
 have Hf := Lib.hid hf
 have HLen := Lib.hid hS.len
 have HOne := Lib.hid hS.one
 have HI := Lib.hid hI
 have HHy := Lib.hid hH
 have HK := Lib.hid (And.intro hk hks)
 have HCm := Lib.hid (fun (h : List Value) (s : Lb) (e : EntOk w m h s) => e.opens)
 have HEl0 := entC_len nm.1 va hy
 generalize hE : entC nm.1 va hy = E at *
 have HE := Lib.hid hE.symm
 have HEl := Lib.hid HEl0
 have HB0 : Below w.heap.size w ((((w.alloc (.cells #[.slice (some ⟨g, 0, none⟩) n cap] 40)).alloc (.cells E.toArray 87)).alloc (.cells #[.int .i64 x1, .int .i64 x2, .int .i64 x3] 89)).alloc (.cells #[.slice none 0 0] 40)) := ((((Below.refl _ _).alloc (Nat.le_refl _) _).alloc (by simp) _).alloc (by simp; omega) _).alloc (by simp; omega) _
 have qb := (((Bk.new w 40 #[.slice (some ⟨g, 0, none⟩) n cap]).alloc (.cells E.toArray 87)).alloc (.cells #[.int .i64 x1, .int .i64 x2, .int .i64 x3] 89)).alloc (.cells #[.slice none 0 0] 40)
 have qe := ((Bk.new (w.alloc (.cells #[.slice (some ⟨g, 0, none⟩) n cap] 40)) 87 E.toArray).alloc (.cells #[.int .i64 x1, .int .i64 x2, .int .i64 x3] 89)).alloc (.cells #[.slice none 0 0] 40)
 have qx := (Bk.new ((w.alloc (.cells #[.slice (some ⟨g, 0, none⟩) n cap] 40)).alloc (.cells E.toArray 87)) 89 #[.int .i64 x1, .int .i64 x2, .int .i64 x3]).alloc (.cells #[.slice none 0 0] 40)
 have qo := Bk.new (((w.alloc (.cells #[.slice (some ⟨g, 0, none⟩) n cap] 40)).alloc (.cells E.toArray 87)).alloc (.cells #[.int .i64 x1, .int .i64 x2, .int .i64 x3] 89)) 40 #[.slice none 0 0]
 simp only [World.size_alloc] at qe qx qo
 have HBW := Lib.hid HB0
 clear hE HEl0 hf hn hI hH hk hks HB0
 go_enter Tryz.func14, Tryz.ntmps14
 go_wp2_with fail
 generalize (((w.alloc (.cells #[.slice (some ⟨g, 0, none⟩) n cap] 40)).alloc (.cells E.toArray 87)).alloc (.cells #[.int .i64 x1, .int .i64 x2, .int .i64 x3] 89)).alloc (.cells #[.slice none 0 0] 40) = W at *
 go_loopw [7] (fun i wr => ∃ j : Nat, j ≤ n ∧ i = .int .i64 j ∧ Below W.heap.size W wr) (fun i _ => n - (intOf i).toNat)
 case atStart => exact ⟨0, by omega, rfl, Below.refl _ _⟩
 case round =>
  obtain ⟨j, hj, rfl, hBr⟩ := hrel
  have qbwr := qb.kept hBr
  have qewr := qe.kept hBr
  have qxwr := qx.kept hBr
  have qowr := qo.kept hBr
  have HBwr : Hid (Below w.heap.size w wr) := Lib.hid (HBW.out.trans (hBr.mono HBW.out.size))
  have hBr0 := Lib.hid hBr
  clear qb qe qx qo hBr
  by_cases hlt : j < n
  ·have hd1 : decide ((j : Int) < (n : Int)) = true := by simp; omega
   have hx : hs[j]? = some (hs[j]'(by rw [Hn.out]; exact hlt)) := List.getElem?_eq_getElem _
   have hs' : ns[j]? = some (ns[j]'(by rw [← HS.out.1, Hn.out]; exact hlt)) := List.getElem?_eq_getElem _
   have HEn := Lib.hid (HS.out.2.1 j _ _ hx hs')
   generalize hs[j]'(by rw [Hn.out]; exact hlt) = h at *
   generalize ns[j]'(by rw [← HS.out.1, Hn.out]; exact hlt) = s at *
   obtain ⟨C, sg, scap, sl, hC, rfl, hsr, hsl, hcm2⟩ := HCm.out h s HEn.out
   have HCl := Lib.hid hC
   have HSr := Lib.hid hsr
   have HCx := Lib.hid (sh_cells HLen.out hx Hf.out (fun _ => rfl))
   have HC := Lib.hid (fun i u (hu : C[i]? = some u) => HCx.out i u (by rw [List.getElem?_append_left (List.getElem?_eq_some_iff.1 hu).1]; exact hu))
   have H31 := Lib.hid (HCx.out 31 (.slice (some ⟨sg, 0, none⟩) sl.length scap) (by rw [List.getElem?_append_right (by omega), hC]; rfl))
   have HCmp := Lib.hid (fun W hW => HE.out ▸ hcm2 nm va hy k W HI.out HHy.out HK.out.1 HK.out.2 hW)
   have Hs := Lib.hid hs'
   clear hx hs' hC hsr hcm2 HCx HCm
   have hgwr : g < wr.heap.size := Nat.lt_of_lt_of_le hgl HBwr.out.size
   have Hfwr := Lib.hid (fun o => HBwr.out.cell (p := ⟨g, o, none⟩) hgl)
   have hbwr := qewr.lt
   have b3wr := qbwr.cell 0
   have l3wr := qbwr.lt
   have Hewr := Lib.hid (bk_list qewr)
   obtain ⟨x0wr, x1wr, x2wr, _, _, _⟩ := qxwr.six
   have lxwr := qxwr.lt
   have Hcwr := Lib.hid (fun i u hu => (Hfwr.out _).trans (HC.out i u hu))
   go_wp2_with fail
   refine wp_region_held_drew (S := (fun w' => (∀ b o, b < wr.heap.size → w'.cell? ⟨b, o, none⟩ = wr.cell? ⟨b, o, none⟩) ∧ Below wr.heap.size wr w')) (by kernel_rfl) (sk_start _) (fun hHeld => ?_)
   refine tkH 0 rfl ?_; go_simp
   refine tkH 1 rfl ?_; go_simp
   refine tkH 2 rfl ?_; go_simp
   refine tkH 3 rfl ?_; go_simp
   refine tkH 4 rfl ?_; go_simp
   refine tkH 5 rfl ?_; go_simp
   refine tkH 6 rfl ?_; go_simp
   refine tkH 7 rfl ?_; go_simp
   refine tkH 8 rfl ?_; go_simp
   refine tkH 9 rfl ?_; go_simp
   refine tkH 10 rfl ?_; go_simp
   (refine wpAnyH_take (i := 11) (v := .agg C.toArray) rfl (by kernel_rfl) (by kernel_rfl) (by kernel_rfl) (fun _ _ _ h => h) (Or.inl ⟨by rfl, ?_⟩) (by assumption) ?_; (focus (intro wq hSw; exact run_loadW A_entry _ rfl g (j * 32) rfl C HCl.out (fun i u hu => (hSw.1 g _ hgwr).trans (Hcwr.out i u hu)))); go_simp)
   (refine wpAnyH_take (i := 12) (v := .agg E.toArray) rfl (by kernel_rfl) (by kernel_rfl) (by kernel_rfl) (fun _ _ _ h => h) (Or.inl ⟨by rfl, ?_⟩) (by assumption) ?_; (focus (intro wq hSw; exact run_loadW A_entry _ rfl (w.heap.size + 1) 0 rfl E HEl.out (fun i u hu => (hSw.1 (w.heap.size + 1) _ hbwr).trans (Hewr.out i u hu)))); go_simp)
   (refine rdH 13 rfl (fun K hK => ?_); go_simp; refine (HCmp.out _ (HBwr.out.trans ((hHeld.2).mono HBwr.out.size))).mono ?_; rintro e wry ⟨cwr, rfl, hcwr, hbb⟩; refine hK.out _ _ (sk_step hHeld hbb) (fun hHeld => ?_); clear hK K; go_simp)
   refine tkH 14 rfl ?_; go_simp
   refine tkH 15 rfl ?_; go_simp
   refine wpAnyH_done (by kernel_rfl) ?_ _
   have hbb' := hHeld.2
   clear hHeld hbb hgwr hbwr b3wr l3wr x0wr x1wr x2wr lxwr
   have qewry := qewr.kept hbb'
   have qbwry := qbwr.kept hbb'
   have qxwry := qxwr.kept hbb'
   have qowry := qowr.kept hbb'
   have HBwry := Lib.hid (HBwr.out.trans (Below.mono hbb' HBwr.out.size))
   clear qbwr qewr qxwr qowr
   by_cases hcn : cwr < 0
   ·have hcn' : decide (cwr < 0) = true := by simpa using hcn
    go_wp2_with fail
    go_roundw
    case rel => exact ⟨j + 1, by omega, by go_num, hBr0.out.trans (hbb'.mono hBr0.out.size)⟩
    case measure => simp [intOf]; omega
   ·have hcn0 : 0 ≤ cwr := by omega
    have hcn' : decide (cwr < 0) = false := by simpa using hcn
    clear hcn hbb'
    have hgwry : g < wry.heap.size := Nat.lt_of_lt_of_le hgl HBwry.out.size
    have Hfwry := Lib.hid (fun o => HBwry.out.cell (p := ⟨g, o, none⟩) hgl)
    have hbwry := qewry.lt
    have b3wry := qbwry.cell 0
    have l3wry := qbwry.lt
    have Hewry := Lib.hid (bk_list qewry)
    obtain ⟨x0wry, x1wry, x2wry, _, _, _⟩ := qxwry.six
    have lxwry := qxwry.lt
    have Hcwry := Lib.hid (fun i u hu => (Hfwry.out _).trans (HC.out i u hu))
    have own0 := (OwnS.made (base := wry.heap.size) wry 123 32 (Nat.le_refl _)).own
    have hal := (Below.refl wry.heap.size wry).alloc (Nat.le_refl _) (.cells #[] 123)
    have qez := qewry.kept hal
    have qbz := qbwry.kept hal
    have qxz := qxwry.kept hal
    have qoz := qowry.kept hal
    have HBz0 := Lib.hid (HBwry.out.trans (Below.mono hal HBwry.out.size))
    have HWg := Lib.hid (fun o => HBz0.out.cell (p := ⟨g, o, none⟩) hgl)
    have HTl := Lib.hid (show (hs.take j).flatten.length = j * 32 by rw [flat_len _ (fun a ha => HLen.out a (List.mem_of_mem_take ha)), List.length_take, Hn.out, Nat.min_eq_left hj])
    have HTo := Lib.hid (fun u (hu : u ∈ (hs.take j).flatten) => HOne.out u (by rw [flat_take hs j HLen.out] at hu; exact List.mem_of_mem_take hu))
    have HTc := Lib.hid (sh_take HLen.out Hf.out HWg.out j)
    have hd3 : (j : Int) ≤ (cap : Int) := by omega
    have hd5 : (0 : Int) ≤ (j : Int) := by omega
    clear hal
    generalize hX : (hs.take j).flatten = X at *
    have HXx := Lib.hid hX
    clear hX
    go_wp2_with (at_builtin; refine app T_held rfl _ _ rfl wry.heap.size (.slice (some ⟨wry.heap.size, 0, none⟩) 0 0) 0 [] rfl own0 g 0 j cap X rfl HTl.out HTc.out HTo.out (by omega) (by omega) (by simp) ?_; intro va4 wa howna hga hna)
    obtain ⟨g4, cap4, rfl, howna⟩ := OwnS.grow howna hna (by simp)
    have qewa := qez.grown hga (qez.norow own0 (by decide))
    have qbwa := qbz.grown hga (qbz.norow own0 (by decide))
    have qxwa := qxz.grown hga (qxz.norow own0 (by decide))
    have qowa := qoz.grown hga (qoz.norow own0 (by decide))
    have HBwa := Lib.hid (HBz0.out.grown hga HBz0.out.size (fun k hk => by have := (own0.lt k hk).1; have := HBwry.out.size; omega))
    rw [Nat.zero_add, List.nil_append] at howna
    have Hb4 := Lib.hid (show w.heap.size ≤ wry.heap.size from HBwry.out.size)
    have HLo := Lib.hid qowry.lt
    clear own0 hga hna qez qbz qxz qoz
    try rw [Nat.zero_add]
    have hgwa : g < wa.heap.size := Nat.lt_of_lt_of_le hgl HBwa.out.size
    have Hfwa := Lib.hid (fun o => HBwa.out.cell (p := ⟨g, o, none⟩) hgl)
    have hbwa := qewa.lt
    have b3wa := qbwa.cell 0
    have l3wa := qbwa.lt
    have Hewa := Lib.hid (bk_list qewa)
    obtain ⟨x0wa, x1wa, x2wa, _, _, _⟩ := qxwa.six
    have lxwa := qxwa.lt
    have Hcwa := Lib.hid (fun i u hu => (Hfwa.out _).trans (HC.out i u hu))
    go_wp2_with fail
    refine wp_region_held_drew (S := (fun w' => (∀ b o, b < wa.heap.size → w'.cell? ⟨b, o, none⟩ = wa.cell? ⟨b, o, none⟩) ∧ Below wa.heap.size wa w')) (by kernel_rfl) (sk_start _) (fun hHeld => ?_)
    refine tkH 0 rfl ?_; go_simp
    refine tkH 1 rfl ?_; go_simp
    refine tkH 2 rfl ?_; go_simp
    refine tkH 3 rfl ?_; go_simp
    refine tkH 4 rfl ?_; go_simp
    refine tkH 5 rfl ?_; go_simp
    refine tkH 6 rfl ?_; go_simp
    refine tkH 7 rfl ?_; go_simp
    refine tkH 8 rfl ?_; go_simp
    refine tkH 9 rfl ?_; go_simp
    refine tkH 10 rfl ?_; go_simp
    (refine wpAnyH_take (i := 11) (v := .agg C.toArray) rfl (by kernel_rfl) (by kernel_rfl) (by kernel_rfl) (fun _ _ _ h => h) (Or.inl ⟨by rfl, ?_⟩) (by assumption) ?_; (focus (intro wq hSw; exact run_loadW A_entry _ rfl g (j * 32) rfl C HCl.out (fun i u hu => (hSw.1 g _ hgwa).trans (Hcwa.out i u hu)))); go_simp)
    (refine wpAnyH_take (i := 12) (v := .agg E.toArray) rfl (by kernel_rfl) (by kernel_rfl) (by kernel_rfl) (fun _ _ _ h => h) (Or.inl ⟨by rfl, ?_⟩) (by assumption) ?_; (focus (intro wq hSw; exact run_loadW A_entry _ rfl (w.heap.size + 1) 0 rfl E HEl.out (fun i u hu => (hSw.1 (w.heap.size + 1) _ hbwa).trans (Hewa.out i u hu)))); go_simp)
    (refine rdH 13 rfl (fun K hK => ?_); go_simp; refine (HCmp.out _ (HBwa.out.trans ((hHeld.2).mono HBwa.out.size))).mono ?_; rintro e way ⟨cwa, rfl, hcwa, hbb⟩; refine hK.out _ _ (sk_step hHeld hbb) (fun hHeld => ?_); clear hK K; go_simp)
    refine tkH 14 rfl ?_; go_simp
    refine tkH 15 rfl ?_; go_simp
    refine wpAnyH_done (by kernel_rfl) ?_ _
    have hbb' := hHeld.2
    clear hHeld hbb hgwa hbwa b3wa l3wa x0wa x1wa x2wa lxwa
    have qeway := qewa.kept hbb'
    have qbway := qbwa.kept hbb'
    have qxway := qxwa.kept hbb'
    have qoway := qowa.kept hbb'
    have HBway := Lib.hid (HBwa.out.trans (Below.mono hbb' HBwa.out.size))
    have hown5 := ownsRow_kept howna hbb'
    clear qbwa qewa qxwa qowa hbb' howna
    by_cases hc0 : cwa = 0
    ·have HNm := Lib.hid (hcwa hc0)
     subst hc0
     have hgway : g < way.heap.size := Nat.lt_of_lt_of_le hgl HBway.out.size
     have Hfway := Lib.hid (fun o => HBway.out.cell (p := ⟨g, o, none⟩) hgl)
     have hbway := qeway.lt
     have b3way := qbway.cell 0
     have l3way := qbway.lt
     have Heway := Lib.hid (bk_list qeway)
     obtain ⟨x0way, x1way, x2way, _, _, _⟩ := qxway.six
     have lxway := qxway.lt
     have Hcway := Lib.hid (fun i u hu => (Hfway.out _).trans (HC.out i u hu))
     have d31 := (Hfway.out _).trans H31.out
     have HSrway := Lib.hid (HSr.out.kept HBway.out)
     have hbV : wry.heap.size ≤ way.heap.size := Nat.le_trans (hown5.lt g4 rfl).1 (Nat.le_of_lt (hown5.lt g4 rfl).2)
     have kg : g < wry.heap.size := Nat.lt_of_lt_of_le hgl Hb4.out
     have k3 : w.heap.size + 1 + 1 + 1 < wry.heap.size := HLo.out
     have k0 : w.heap.size < wry.heap.size := by omega
     have k1 : w.heap.size + 1 < wry.heap.size := by omega
     have k2 : w.heap.size + 1 + 1 < wry.heap.size := by omega
     go_wp2_with fail
     refine wp_region_held_drew (S := (fun w' => (∀ b o, b < wry.heap.size → w'.cell? ⟨b, o, none⟩ = way.cell? ⟨b, o, none⟩) ∧ Below wry.heap.size way w')) (by kernel_rfl) (sb_start _ hbV) (fun hHeld => ?_)
     refine tkH 0 rfl ?_; go_simp
     (refine wpAnyH_take (i := 1) (v := .agg E.toArray) rfl (by kernel_rfl) (by kernel_rfl) (by kernel_rfl) (fun _ _ _ h => h) (Or.inl ⟨by rfl, ?_⟩) (by assumption) ?_; (focus (intro wq hSw; exact run_loadW A_entry _ rfl (w.heap.size + 1) 0 rfl E HEl.out (fun i u hu => (hSw.1 (w.heap.size + 1) _ k1).trans (Heway.out i u hu)))); go_simp)
     refine tkH 2 rfl ?_; go_simp
     refine tkH 3 rfl ?_; go_simp
     refine tkH 4 rfl ?_; go_simp
     refine tkH 5 rfl ?_; go_simp
     refine tkH 6 rfl ?_; go_simp
     refine tkH 7 rfl ?_; go_simp
     refine tkH 8 rfl ?_; go_simp
     (refine rdH 9 rfl (fun K hK => ?_); go_simp; refine (sourced_calls sl x1 x2 x3 sg scap _ (HSrway.out.kept (Below.refl _ _).drew) (by omega)).mono ?_; rintro e wb ⟨g', cap', l', rfl, hsrc, hl', hbb⟩; refine hK.out _ _ (sb_step hHeld hbV hbb) (fun hHeld => ?_); clear hK K; go_simp)
     obtain ⟨H, hH⟩ : ∃ H, H = E ++ [.slice (some ⟨g', 0, none⟩) (List.length l') cap'] := ⟨_, rfl⟩
     have HbB := Lib.hid ((Below.refl way.heap.size way).drew.trans hbb)
     have HHl := Lib.hid (show H.length = 1 * 32 by rw [hH, List.length_append, HEl.out]; rfl)
     have HHo := Lib.hid (show ∀ u ∈ H, u.oneCell' = true by rw [hH]; exact held_one HE.out HI.out.one HHy.out.one _ _ _)
     have HH := Lib.hid hH
     clear hH
     (refine wpAnyH_take (i := 10) (v := .agg H.toArray) rfl (by kernel_rfl) (by kernel_rfl) (by kernel_rfl) (fun _ _ _ h => h) (Or.inl ⟨by rfl, ?_⟩) (by assumption) ?_; (focus (intro wq hSw; exact (by rw [HH.out]; exact yBuild2 rfl rfl rfl (held_of HE.out _ _ _ wq)))); go_simp)
     (refine rdH 11 rfl (fun K hK => ?_); refine sBsl1 rfl rfl rfl (bsl_of HE.out HH.out wb) ?_; refine hK.out _ _ (sb_step hHeld hbV ((Below.refl _ _).alloc (Nat.le_refl _) _)) (fun hHeld => ?_); clear hK K; go_simp)
     have own6 := (ownsRow_kept hown5 HbB.out).alloc (.cells H.toArray 123)
     have qewb := qeway.kept HbB.out
     have qbwb := qbway.kept HbB.out
     have qxwb := qxway.kept HbB.out
     have qowb := qoway.kept HbB.out
     have HBwb := Lib.hid (HBway.out.trans (Below.mono HbB.out HBway.out.size))
     have hal := (Below.refl wb.heap.size wb).alloc (Nat.le_refl _) (.cells H.toArray 123)
     have qewx := qewb.kept hal
     have qbwx := qbwb.kept hal
     have qxwx := qxwb.kept hal
     have qowx := qowb.kept hal
     have HBwx := Lib.hid (HBwb.out.trans (Below.mono hal HBwb.out.size))
     have hsx := hsrc.kept hal
     clear hal
     (refine rdH 12 rfl (fun K hK => ?_); refine stepApp T_held rfl _ _ rfl wry.heap.size (.slice (some ⟨g4, 0, none⟩) j cap4) j X rfl own6 wb.heap.size 0 1 1 H rfl HHl.out (cells_new wb H 123) HHo.out (by omega) (by omega) (Nat.le_trans (own6.lt g4 rfl).1 (Nat.le_of_lt (own6.lt g4 rfl).2)) ?_; intro vc wc hownc hgc hnc; refine hK.out _ _ (sb_grown hHeld hbV hgc (fun k hk => (own6.lt k hk).1)) (fun hHeld => ?_); clear hK K; go_simp)
     refine tkH 13 rfl ?_; go_simp
     refine wpAnyH_done (by kernel_rfl) ?_ _
     have qewc := qewx.grown hgc (qewx.norow own6 (by decide))
     have qbwc := qbwx.grown hgc (qbwx.norow own6 (by decide))
     have qxwc := qxwx.grown hgc (qxwx.norow own6 (by decide))
     have qowc := qowx.grown hgc (qowx.norow own6 (by decide))
     have HBwc := Lib.hid (HBwx.out.grown hgc HBwx.out.size (fun k hk => by have := (own6.lt k hk).1; have := Hb4.out; omega))
     have hsrc := hsx.row own6 hgc
     obtain ⟨g6, cap6, rfl, hown⟩ := OwnS.grow hownc hnc (by simp)
     clear hHeld hbb hbV kg k0 k1 k2 k3 own6 hgc hnc hownc hsx qbway qeway qxway qoway qbwb qewb qxwb qowb qbwx qewx qxwx qowx hown5 d31 hgway hbway b3way l3way x0way x1way x2way lxway
     have HWgwc := Lib.hid (fun o => HBwc.out.cell (p := ⟨g, o, none⟩) hgl)
     have HDl := Lib.hid (show (hs.drop (j + 1)).flatten.length = (n - (j + 1)) * 32 by rw [flat_len _ (fun a ha => HLen.out a (List.mem_of_mem_drop ha)), List.length_drop, Hn.out])
     have HDo := Lib.hid (fun u (hu : u ∈ (hs.drop (j + 1)).flatten) => HOne.out u (by rw [flat_drop hs (j + 1) HLen.out] at hu; exact List.mem_of_mem_drop hu))
     have HDc := Lib.hid (sh_drop HLen.out (show hs.length ≤ cap by rw [Hn.out]; exact hcl) Hf.out HWgwc.out (j + 1))
     generalize hD : (hs.drop (j + 1)).flatten = D at *
     have HD := Lib.hid hD
     clear hD
     have b3 := qbwc.cell 0
     have l3 := qbwc.lt
     have o3 := qowc.cell 0
     have of := qowc.frozen 0
     have lo := qowc.lt
     have hd3 : (j : Int) ≤ (cap : Int) := by omega
     have hd4 : (j : Int) ≤ (n : Int) := by omega
     have hd5 : (0 : Int) ≤ (j : Int) := by omega
     have hbz : wry.heap.size ≤ wc.heap.size := Nat.le_trans (Nat.le_of_lt (hown.lt g6 rfl).2 |> Nat.le_trans (hown.lt g6 rfl).1) (Nat.le_refl _)
     have HSt : Hid (∀ (va7 : Value) (wd : World), wc.grownBy wd (some g6) → SrcT wd g' cap' l') := Lib.hid (fun va7 wd hgd => hsrc.row hown hgd)
     have hown0 := hown
     go_wp2_with (at_builtin; refine app T_held rfl _ _ rfl wry.heap.size (.slice (some ⟨g6, 0, none⟩) (j + 1) cap6) (j + 1) (X ++ H) rfl hown g (if cap = (j + 1) then 0 else (j + 1) * 32) (n - (j + 1)) (cap - (j + 1)) D (by by_cases h : cap = (j + 1) <;> simp [Act.eval, h] <;> omega) HDl.out HDc.out HDo.out (by omega) (by omega) hbz ?_; intro va7 wd hownd hgd hnd; obtain ⟨g7, cap7, rfl, hownd⟩ := OwnS.grow hownd hnd (by simp); have qod := qowc.grown hgd (qowc.norow hown (by decide)); have HBd := Lib.hid (HBwc.out.grown hgd HBwc.out.size (fun k hk => by have := (hown0.lt k hk).1; have := Hb4.out; omega)); have hsd := HSt.out (.slice (some ⟨g7, 0, none⟩) (j + 1 + (n - (j + 1))) cap7) wd hgd; have o3d := qod.cell 0; have ofd := qod.frozen 0; have lod := qod.lt; clear o3 of lo b3 l3)
     all_goals
      refine bodyPost_ret (v := .agg #[.slice (some ⟨g7, 0, none⟩) (j + 1 + (n - (j + 1))) cap7]) (by simp [results, Tryz.results14, go_sem, o3d]) rfl ?_
      have hownf := ownsRow_far hownd (p := ⟨w.heap.size + 1 + 1 + 1, 0, none⟩) (fun e => (qod.norow hownd (by decide)) e.symm) (.slice (some ⟨g7, 0, none⟩) (j + 1 + (n - (j + 1))) cap7)
      have hsf := hsd.far qod (by decide) 0 (.slice (some ⟨g7, 0, none⟩) (j + 1 + (n - (j + 1))) cap7)
      have hBf := HBd.out.setCell (p := ⟨w.heap.size + 1 + 1 + 1, 0, none⟩) (show w.heap.size ≤ w.heap.size + 1 + 1 + 1 by omega) (.slice (some ⟨g7, 0, none⟩) (j + 1 + (n - (j + 1))) cap7)
      have he := ent_of HE.out (HI.out.kept hBf) (HHy.out.kept hBf) HK.out.1 HK.out.2 hsf (show l'.length ≤ m + 1 by omega) hnm
      rw [← HH.out] at he
      obtain ⟨hs', ns', h1, h2, h3⟩ := HS.out.ins (j := j) (d := 1) hBf (by rw [Hn.out]; exact hj) he (.inr ⟨rfl, by rw [Hs.out, HNm.out]⟩) (show j + 1 + (n - (j + 1)) = _ by rw [List.length_append, List.length_append, List.length_take, List.length_drop, Hn.out]; simp; omega) (by have h9 := hownf; rw [← HXx.out, ← HD.out] at h9; exact h9)
      exact ⟨_, hs', ns', rfl, h1, h2, h3, hBf⟩
    ·have hc0' : (cwa == 0) = false := by simpa using hc0
     clear hc0
     have hgway : g < way.heap.size := Nat.lt_of_lt_of_le hgl HBway.out.size
     have Hfway := Lib.hid (fun o => HBway.out.cell (p := ⟨g, o, none⟩) hgl)
     have hbway := qeway.lt
     have b3way := qbway.cell 0
     have l3way := qbway.lt
     have Heway := Lib.hid (bk_list qeway)
     obtain ⟨x0way, x1way, x2way, _, _, _⟩ := qxway.six
     have lxway := qxway.lt
     have Hcway := Lib.hid (fun i u hu => (Hfway.out _).trans (HC.out i u hu))
     obtain ⟨H, hH⟩ : ∃ H, H = E ++ [.slice (some ⟨way.heap.size, 0, none⟩) (List.length [(x1, x2, x3)]) 1] := ⟨_, rfl⟩
     have HHl := Lib.hid (show H.length = 1 * 32 by rw [hH, List.length_append, HEl.out]; rfl)
     have hal1 := (Below.refl way.heap.size way).alloc (Nat.le_refl _) (.cells #[.int .i64 x1, .int .i64 x2, .int .i64 x3] 89)
     have hsr0 := SrcT.one way x1 x2 x3
     have HHo := Lib.hid (show ∀ u ∈ H, u.oneCell' = true by rw [hH]; exact held_one HE.out HI.out.one HHy.out.one _ _ _)
     have HBd := Lib.hid (show ∀ W, (Instr.build 123 #[(0, (.agg E.toArray : Value)), (1, (.slice (some ⟨way.heap.size, 0, none⟩) 1 1 : Value))]).run Tryz.prog W = .ok (.agg H.toArray) W from fun W => by rw [hH]; exact held_of HE.out _ 1 1 W)
     have HBs := Lib.hid (show (Instr.buildSlice 38 1 #[(0, (.agg H.toArray : Value))]).run Tryz.prog (way.alloc (.cells #[.int .i64 x1, .int .i64 x2, .int .i64 x3] 89)) = .ok (.slice (some ⟨way.heap.size + 1, 0, none⟩) 1 1) ((way.alloc (.cells #[.int .i64 x1, .int .i64 x2, .int .i64 x3] 89)).alloc (.cells H.toArray 123)) from by have := bsl_of HE.out hH (way.alloc (.cells #[.int .i64 x1, .int .i64 x2, .int .i64 x3] 89)); rwa [World.size_alloc] at this)
     have HH := Lib.hid hH
     clear hH
     have hal2 := hal1.alloc (by simp) (.cells H.toArray 123)
     have hal3 := (Below.refl (way.alloc (.cells #[.int .i64 x1, .int .i64 x2, .int .i64 x3] 89)).heap.size _).alloc (Nat.le_refl _) (.cells H.toArray 123)
     have qewx := qeway.kept hal2
     have qbwx := qbway.kept hal2
     have qxwx := qxway.kept hal2
     have qowx := qoway.kept hal2
     have HBwx := Lib.hid (HBway.out.trans (Below.mono hal2 HBway.out.size))
     have own6 := (hown5.alloc (.cells #[.int .i64 x1, .int .i64 x2, .int .i64 x3] 89)).alloc (.cells H.toArray 123)
     have hsx := hsr0.kept hal3
     have HNw := Lib.hid (cells_new1 way (.cells #[.int .i64 x1, .int .i64 x2, .int .i64 x3] 89) H 123)
     clear hal1 hal2 hal3 hsr0
     have HX6 := Lib.hid (fun (wc : World) (hgc : ((way.alloc (.cells #[.int .i64 x1, .int .i64 x2, .int .i64 x3] 89)).alloc (.cells H.toArray 123)).grownBy wc (some g4)) => And.intro (hsx.row own6 hgc) (And.intro (qewx.grown hgc (qewx.norow own6 (by decide))) (And.intro (qbwx.grown hgc (qbwx.norow own6 (by decide))) (And.intro (qxwx.grown hgc (qxwx.norow own6 (by decide))) (And.intro (qowx.grown hgc (qowx.norow own6 (by decide))) (HBwx.out.grown hgc HBwx.out.size (fun k hk => by have := (own6.lt k hk).1; have := Hb4.out; omega)))))))
     clear hsx qewx qbwx qxwx qowx
     go_upto_region 9 with (first | (refine loadW A_entry rfl _ rfl (w.heap.size + 1) 0 rfl E HEl.out Heway.out ?_) | ((with_reducible refine lBuild2 (t := 123) (v1 := .agg E.toArray) (v2 := .slice (some ⟨way.heap.size, 0, none⟩) 1 1) rfl rfl ?_ ?_ (HBd.out _) ?_); rfl; rfl) | ((with_reducible refine lBsl1 (t := 38) (n := 1) (v1 := .agg H.toArray) rfl rfl ?_ HBs.out ?_); rfl) | (at_builtin; refine app T_held rfl _ _ rfl wry.heap.size (.slice (some ⟨g4, 0, none⟩) j cap4) j X rfl own6 (way.heap.size + 1) 0 1 1 H rfl HHl.out HNw.out HHo.out (by omega) (by omega) (Nat.le_trans (own6.lt g4 rfl).1 (Nat.le_of_lt (own6.lt g4 rfl).2)) ?_; intro vc wc hownc hgc hnc))
     obtain ⟨g6, cap6, rfl, hown⟩ := OwnS.grow hownc hnc (by simp)
     obtain ⟨hsrc, qewc, qbwc, qxwc, qowc, HBwc⟩ := HX6.out _ hgc
     have HBwc := Lib.hid HBwc
     clear own6 hgc hnc hownc HX6 qbway qeway qxway qoway hown5 hgway hbway b3way l3way x0way x1way x2way lxway
     have HWgwc := Lib.hid (fun o => HBwc.out.cell (p := ⟨g, o, none⟩) hgl)
     have HDl := Lib.hid (show (hs.drop j).flatten.length = (n - j) * 32 by rw [flat_len _ (fun a ha => HLen.out a (List.mem_of_mem_drop ha)), List.length_drop, Hn.out])
     have HDo := Lib.hid (fun u (hu : u ∈ (hs.drop j).flatten) => HOne.out u (by rw [flat_drop hs j HLen.out] at hu; exact List.mem_of_mem_drop hu))
     have HDc := Lib.hid (sh_drop HLen.out (show hs.length ≤ cap by rw [Hn.out]; exact hcl) Hf.out HWgwc.out j)
     generalize hD : (hs.drop j).flatten = D at *
     have HD := Lib.hid hD
     clear hD
     have b3 := qbwc.cell 0
     have l3 := qbwc.lt
     have o3 := qowc.cell 0
     have of := qowc.frozen 0
     have lo := qowc.lt
     have hd3 : (j : Int) ≤ (cap : Int) := by omega
     have hd4 : (j : Int) ≤ (n : Int) := by omega
     have hd5 : (0 : Int) ≤ (j : Int) := by omega
     have hbz : wry.heap.size ≤ wc.heap.size := Nat.le_trans (Nat.le_of_lt (hown.lt g6 rfl).2 |> Nat.le_trans (hown.lt g6 rfl).1) (Nat.le_refl _)
     have HSt : Hid (∀ (va7 : Value) (wd : World), wc.grownBy wd (some g6) → SrcT wd way.heap.size 1 [(x1, x2, x3)]) := Lib.hid (fun va7 wd hgd => hsrc.row hown hgd)
     have hown0 := hown
     go_wp2_with (at_builtin; refine app T_held rfl _ _ rfl wry.heap.size (.slice (some ⟨g6, 0, none⟩) (j + 1) cap6) (j + 1) (X ++ H) rfl hown g (if cap = j then 0 else j * 32) (n - j) (cap - j) D (by by_cases h : cap = j <;> simp [Act.eval, h] <;> omega) HDl.out HDc.out HDo.out (by omega) (by omega) hbz ?_; intro va7 wd hownd hgd hnd; obtain ⟨g7, cap7, rfl, hownd⟩ := OwnS.grow hownd hnd (by simp); have qod := qowc.grown hgd (qowc.norow hown (by decide)); have HBd := Lib.hid (HBwc.out.grown hgd HBwc.out.size (fun k hk => by have := (hown0.lt k hk).1; have := Hb4.out; omega)); have hsd := HSt.out (.slice (some ⟨g7, 0, none⟩) (j + 1 + (n - j)) cap7) wd hgd; have o3d := qod.cell 0; have ofd := qod.frozen 0; have lod := qod.lt; clear o3 of lo b3 l3)
     all_goals
      refine bodyPost_ret (v := .agg #[.slice (some ⟨g7, 0, none⟩) (j + 1 + (n - j)) cap7]) (by simp [results, Tryz.results14, go_sem, o3d]) rfl ?_
      have hownf := ownsRow_far hownd (p := ⟨w.heap.size + 1 + 1 + 1, 0, none⟩) (fun e => (qod.norow hownd (by decide)) e.symm) (.slice (some ⟨g7, 0, none⟩) (j + 1 + (n - j)) cap7)
      have hsf := hsd.far qod (by decide) 0 (.slice (some ⟨g7, 0, none⟩) (j + 1 + (n - j)) cap7)
      have hBf := HBd.out.setCell (p := ⟨w.heap.size + 1 + 1 + 1, 0, none⟩) (show w.heap.size ≤ w.heap.size + 1 + 1 + 1 by omega) (.slice (some ⟨g7, 0, none⟩) (j + 1 + (n - j)) cap7)
      have he := ent_of HE.out (HI.out.kept hBf) (HHy.out.kept hBf) HK.out.1 HK.out.2 hsf (show [(x1, x2, x3)].length ≤ m + 1 by simp) hnm
      rw [← HH.out] at he
      obtain ⟨hs', ns', h1, h2, h3⟩ := HS.out.ins (j := j) (d := 0) hBf (by rw [Hn.out]; exact hj) he (.inl rfl) (show j + 1 + (n - j) = _ by rw [List.length_append, List.length_append, List.length_take, List.length_drop, Hn.out]; simp; omega) (by have h9 := hownf; rw [← HXx.out, ← HD.out] at h9; exact h9)
      exact ⟨_, hs', ns', rfl, h1, h2, h3, hBf⟩
  ·have hd1 : decide ((j : Int) < (n : Int)) = false := by simp; omega
   have hgwr : g < wr.heap.size := Nat.lt_of_lt_of_le hgl HBwr.out.size
   have Hfwr := Lib.hid (fun o => HBwr.out.cell (p := ⟨g, o, none⟩) hgl)
   have hbwr := qewr.lt
   have b3wr := qbwr.cell 0
   have l3wr := qbwr.lt
   have Hewr := Lib.hid (bk_list qewr)
   obtain ⟨x0wr, x1wr, x2wr, _, _, _⟩ := qxwr.six
   have lxwr := qxwr.lt
   go_wp2_with fail
   refine wp_region_held_drew (S := (fun w' => (∀ b o, b < wr.heap.size → w'.cell? ⟨b, o, none⟩ = wr.cell? ⟨b, o, none⟩) ∧ Below wr.heap.size wr w')) (by kernel_rfl) (sk_start _) (fun hHeld => ?_)
   refine tkH 0 rfl ?_; go_simp
   refine tkH 1 rfl ?_; go_simp
   refine tkH 2 rfl ?_; go_simp
   refine tkH 3 rfl ?_; go_simp
   refine tkH 4 rfl ?_; go_simp
   refine tkH 5 rfl ?_; go_simp
   refine tkU 6 rfl ?_; go_simp
   refine tkU 7 rfl ?_; go_simp
   refine tkU 8 rfl ?_; go_simp
   refine tkU 9 rfl ?_; go_simp
   refine tkU 10 rfl ?_; go_simp
   refine tkU 11 rfl ?_; go_simp
   refine tkU 12 rfl ?_; go_simp
   refine tkU 13 rfl ?_; go_simp
   refine tkU 14 rfl ?_; go_simp
   refine tkH 15 rfl ?_; go_simp
   refine wpAnyH_done (by kernel_rfl) ?_ _
   clear hHeld hgwr hbwr b3wr l3wr x0wr x1wr x2wr lxwr
   have hbb' := (Below.refl wr.heap.size wr).drew
   have qewry := qewr.kept hbb'
   have qbwry := qbwr.kept hbb'
   have qxwry := qxwr.kept hbb'
   have qowry := qowr.kept hbb'
   have HBwry := Lib.hid (HBwr.out.trans (Below.mono hbb' HBwr.out.size))
   clear qbwr qewr qxwr qowr hbb'
   generalize wr.drew = wry at *
   have hgwry : g < wry.heap.size := Nat.lt_of_lt_of_le hgl HBwry.out.size
   have Hfwry := Lib.hid (fun o => HBwry.out.cell (p := ⟨g, o, none⟩) hgl)
   have hbwry := qewry.lt
   have b3wry := qbwry.cell 0
   have l3wry := qbwry.lt
   have Hewry := Lib.hid (bk_list qewry)
   obtain ⟨x0wry, x1wry, x2wry, _, _, _⟩ := qxwry.six
   have lxwry := qxwry.lt
   have own0 := (OwnS.made (base := wry.heap.size) wry 123 32 (Nat.le_refl _)).own
   have hal := (Below.refl wry.heap.size wry).alloc (Nat.le_refl _) (.cells #[] 123)
   have qez := qewry.kept hal
   have qbz := qbwry.kept hal
   have qxz := qxwry.kept hal
   have qoz := qowry.kept hal
   have HBz0 := Lib.hid (HBwry.out.trans (Below.mono hal HBwry.out.size))
   have HWg := Lib.hid (fun o => HBz0.out.cell (p := ⟨g, o, none⟩) hgl)
   have HTl := Lib.hid (show (hs.take j).flatten.length = j * 32 by rw [flat_len _ (fun a ha => HLen.out a (List.mem_of_mem_take ha)), List.length_take, Hn.out, Nat.min_eq_left hj])
   have HTo := Lib.hid (fun u (hu : u ∈ (hs.take j).flatten) => HOne.out u (by rw [flat_take hs j HLen.out] at hu; exact List.mem_of_mem_take hu))
   have HTc := Lib.hid (sh_take HLen.out Hf.out HWg.out j)
   have hd3 : (j : Int) ≤ (cap : Int) := by omega
   have hd5 : (0 : Int) ≤ (j : Int) := by omega
   clear hal
   generalize hX : (hs.take j).flatten = X at *
   have HXx := Lib.hid hX
   clear hX
   go_wp2_with (at_builtin; refine app T_held rfl _ _ rfl wry.heap.size (.slice (some ⟨wry.heap.size, 0, none⟩) 0 0) 0 [] rfl own0 g 0 j cap X rfl HTl.out HTc.out HTo.out (by omega) (by omega) (by simp) ?_; intro va4 wa howna hga hna)
   obtain ⟨g4, cap4, rfl, howna⟩ := OwnS.grow howna hna (by simp)
   have qewa := qez.grown hga (qez.norow own0 (by decide))
   have qbwa := qbz.grown hga (qbz.norow own0 (by decide))
   have qxwa := qxz.grown hga (qxz.norow own0 (by decide))
   have qowa := qoz.grown hga (qoz.norow own0 (by decide))
   have HBwa := Lib.hid (HBz0.out.grown hga HBz0.out.size (fun k hk => by have := (own0.lt k hk).1; have := HBwry.out.size; omega))
   rw [Nat.zero_add, List.nil_append] at howna
   have Hb4 := Lib.hid (show w.heap.size ≤ wry.heap.size from HBwry.out.size)
   have HLo := Lib.hid qowry.lt
   clear own0 hga hna qez qbz qxz qoz
   try rw [Nat.zero_add]
   have hgwa : g < wa.heap.size := Nat.lt_of_lt_of_le hgl HBwa.out.size
   have Hfwa := Lib.hid (fun o => HBwa.out.cell (p := ⟨g, o, none⟩) hgl)
   have hbwa := qewa.lt
   have b3wa := qbwa.cell 0
   have l3wa := qbwa.lt
   have Hewa := Lib.hid (bk_list qewa)
   obtain ⟨x0wa, x1wa, x2wa, _, _, _⟩ := qxwa.six
   have lxwa := qxwa.lt
   go_wp2_with fail
   refine wp_region_held_drew (S := (fun w' => (∀ b o, b < wa.heap.size → w'.cell? ⟨b, o, none⟩ = wa.cell? ⟨b, o, none⟩) ∧ Below wa.heap.size wa w')) (by kernel_rfl) (sk_start _) (fun hHeld => ?_)
   refine tkH 0 rfl ?_; go_simp
   refine tkH 1 rfl ?_; go_simp
   refine tkH 2 rfl ?_; go_simp
   refine tkH 3 rfl ?_; go_simp
   refine tkH 4 rfl ?_; go_simp
   refine tkH 5 rfl ?_; go_simp
   refine tkU 6 rfl ?_; go_simp
   refine tkU 7 rfl ?_; go_simp
   refine tkU 8 rfl ?_; go_simp
   refine tkU 9 rfl ?_; go_simp
   refine tkU 10 rfl ?_; go_simp
   refine tkU 11 rfl ?_; go_simp
   refine tkU 12 rfl ?_; go_simp
   refine tkU 13 rfl ?_; go_simp
   refine tkU 14 rfl ?_; go_simp
   refine tkH 15 rfl ?_; go_simp
   refine wpAnyH_done (by kernel_rfl) ?_ _
   clear hHeld hgwa hbwa b3wa l3wa x0wa x1wa x2wa lxwa
   have hbb' := (Below.refl wa.heap.size wa).drew
   have qeway := qewa.kept hbb'
   have qbway := qbwa.kept hbb'
   have qxway := qxwa.kept hbb'
   have qoway := qowa.kept hbb'
   have HBway := Lib.hid (HBwa.out.trans (Below.mono hbb' HBwa.out.size))
   have hown5 := ownsRow_kept howna hbb'
   clear qbwa qewa qxwa qowa hbb' howna
   generalize wa.drew = way at *
   have hgway : g < way.heap.size := Nat.lt_of_lt_of_le hgl HBway.out.size
   have Hfway := Lib.hid (fun o => HBway.out.cell (p := ⟨g, o, none⟩) hgl)
   have hbway := qeway.lt
   have b3way := qbway.cell 0
   have l3way := qbway.lt
   have Heway := Lib.hid (bk_list qeway)
   obtain ⟨x0way, x1way, x2way, _, _, _⟩ := qxway.six
   have lxway := qxway.lt
   obtain ⟨H, hH⟩ : ∃ H, H = E ++ [.slice (some ⟨way.heap.size, 0, none⟩) (List.length [(x1, x2, x3)]) 1] := ⟨_, rfl⟩
   have HHl := Lib.hid (show H.length = 1 * 32 by rw [hH, List.length_append, HEl.out]; rfl)
   have hal1 := (Below.refl way.heap.size way).alloc (Nat.le_refl _) (.cells #[.int .i64 x1, .int .i64 x2, .int .i64 x3] 89)
   have hsr0 := SrcT.one way x1 x2 x3
   have HHo := Lib.hid (show ∀ u ∈ H, u.oneCell' = true by rw [hH]; exact held_one HE.out HI.out.one HHy.out.one _ _ _)
   have HBd := Lib.hid (show ∀ W, (Instr.build 123 #[(0, (.agg E.toArray : Value)), (1, (.slice (some ⟨way.heap.size, 0, none⟩) 1 1 : Value))]).run Tryz.prog W = .ok (.agg H.toArray) W from fun W => by rw [hH]; exact held_of HE.out _ 1 1 W)
   have HBs := Lib.hid (show (Instr.buildSlice 38 1 #[(0, (.agg H.toArray : Value))]).run Tryz.prog (way.alloc (.cells #[.int .i64 x1, .int .i64 x2, .int .i64 x3] 89)) = .ok (.slice (some ⟨way.heap.size + 1, 0, none⟩) 1 1) ((way.alloc (.cells #[.int .i64 x1, .int .i64 x2, .int .i64 x3] 89)).alloc (.cells H.toArray 123)) from by have := bsl_of HE.out hH (way.alloc (.cells #[.int .i64 x1, .int .i64 x2, .int .i64 x3] 89)); rwa [World.size_alloc] at this)
   have HH := Lib.hid hH
   clear hH
   have hal2 := hal1.alloc (by simp) (.cells H.toArray 123)
   have hal3 := (Below.refl (way.alloc (.cells #[.int .i64 x1, .int .i64 x2, .int .i64 x3] 89)).heap.size _).alloc (Nat.le_refl _) (.cells H.toArray 123)
   have qewx := qeway.kept hal2
   have qbwx := qbway.kept hal2
   have qxwx := qxway.kept hal2
   have qowx := qoway.kept hal2
   have HBwx := Lib.hid (HBway.out.trans (Below.mono hal2 HBway.out.size))
   have own6 := (hown5.alloc (.cells #[.int .i64 x1, .int .i64 x2, .int .i64 x3] 89)).alloc (.cells H.toArray 123)
   have hsx := hsr0.kept hal3
   have HNw := Lib.hid (cells_new1 way (.cells #[.int .i64 x1, .int .i64 x2, .int .i64 x3] 89) H 123)
   clear hal1 hal2 hal3 hsr0
   have HX6 := Lib.hid (fun (wc : World) (hgc : ((way.alloc (.cells #[.int .i64 x1, .int .i64 x2, .int .i64 x3] 89)).alloc (.cells H.toArray 123)).grownBy wc (some g4)) => And.intro (hsx.row own6 hgc) (And.intro (qewx.grown hgc (qewx.norow own6 (by decide))) (And.intro (qbwx.grown hgc (qbwx.norow own6 (by decide))) (And.intro (qxwx.grown hgc (qxwx.norow own6 (by decide))) (And.intro (qowx.grown hgc (qowx.norow own6 (by decide))) (HBwx.out.grown hgc HBwx.out.size (fun k hk => by have := (own6.lt k hk).1; have := Hb4.out; omega)))))))
   clear hsx qewx qbwx qxwx qowx
   go_upto_region 9 with (first | (refine loadW A_entry rfl _ rfl (w.heap.size + 1) 0 rfl E HEl.out Heway.out ?_) | ((with_reducible refine lBuild2 (t := 123) (v1 := .agg E.toArray) (v2 := .slice (some ⟨way.heap.size, 0, none⟩) 1 1) rfl rfl ?_ ?_ (HBd.out _) ?_); rfl; rfl) | ((with_reducible refine lBsl1 (t := 38) (n := 1) (v1 := .agg H.toArray) rfl rfl ?_ HBs.out ?_); rfl) | (at_builtin; refine app T_held rfl _ _ rfl wry.heap.size (.slice (some ⟨g4, 0, none⟩) j cap4) j X rfl own6 (way.heap.size + 1) 0 1 1 H rfl HHl.out HNw.out HHo.out (by omega) (by omega) (Nat.le_trans (own6.lt g4 rfl).1 (Nat.le_of_lt (own6.lt g4 rfl).2)) ?_; intro vc wc hownc hgc hnc))
   obtain ⟨g6, cap6, rfl, hown⟩ := OwnS.grow hownc hnc (by simp)
   obtain ⟨hsrc, qewc, qbwc, qxwc, qowc, HBwc⟩ := HX6.out _ hgc
   have HBwc := Lib.hid HBwc
   clear own6 hgc hnc hownc HX6 qbway qeway qxway qoway hown5 hgway hbway b3way l3way x0way x1way x2way lxway
   have HWgwc := Lib.hid (fun o => HBwc.out.cell (p := ⟨g, o, none⟩) hgl)
   have HDl := Lib.hid (show (hs.drop j).flatten.length = (n - j) * 32 by rw [flat_len _ (fun a ha => HLen.out a (List.mem_of_mem_drop ha)), List.length_drop, Hn.out])
   have HDo := Lib.hid (fun u (hu : u ∈ (hs.drop j).flatten) => HOne.out u (by rw [flat_drop hs j HLen.out] at hu; exact List.mem_of_mem_drop hu))
   have HDc := Lib.hid (sh_drop HLen.out (show hs.length ≤ cap by rw [Hn.out]; exact hcl) Hf.out HWgwc.out j)
   generalize hD : (hs.drop j).flatten = D at *
   have HD := Lib.hid hD
   clear hD
   have b3 := qbwc.cell 0
   have l3 := qbwc.lt
   have o3 := qowc.cell 0
   have of := qowc.frozen 0
   have lo := qowc.lt
   have hd3 : (j : Int) ≤ (cap : Int) := by omega
   have hd4 : (j : Int) ≤ (n : Int) := by omega
   have hd5 : (0 : Int) ≤ (j : Int) := by omega
   have hbz : wry.heap.size ≤ wc.heap.size := Nat.le_trans (Nat.le_of_lt (hown.lt g6 rfl).2 |> Nat.le_trans (hown.lt g6 rfl).1) (Nat.le_refl _)
   have HSt : Hid (∀ (va7 : Value) (wd : World), wc.grownBy wd (some g6) → SrcT wd way.heap.size 1 [(x1, x2, x3)]) := Lib.hid (fun va7 wd hgd => hsrc.row hown hgd)
   have hown0 := hown
   go_wp2_with (at_builtin; refine app T_held rfl _ _ rfl wry.heap.size (.slice (some ⟨g6, 0, none⟩) (j + 1) cap6) (j + 1) (X ++ H) rfl hown g (if cap = j then 0 else j * 32) (n - j) (cap - j) D (by by_cases h : cap = j <;> simp [Act.eval, h] <;> omega) HDl.out HDc.out HDo.out (by omega) (by omega) hbz ?_; intro va7 wd hownd hgd hnd; obtain ⟨g7, cap7, rfl, hownd⟩ := OwnS.grow hownd hnd (by simp); have qod := qowc.grown hgd (qowc.norow hown (by decide)); have HBd := Lib.hid (HBwc.out.grown hgd HBwc.out.size (fun k hk => by have := (hown0.lt k hk).1; have := Hb4.out; omega)); have hsd := HSt.out (.slice (some ⟨g7, 0, none⟩) (j + 1 + (n - j)) cap7) wd hgd; have o3d := qod.cell 0; have ofd := qod.frozen 0; have lod := qod.lt; clear o3 of lo b3 l3)
   all_goals
    refine bodyPost_ret (v := .agg #[.slice (some ⟨g7, 0, none⟩) (j + 1 + (n - j)) cap7]) (by simp [results, Tryz.results14, go_sem, o3d]) rfl ?_
    have hownf := ownsRow_far hownd (p := ⟨w.heap.size + 1 + 1 + 1, 0, none⟩) (fun e => (qod.norow hownd (by decide)) e.symm) (.slice (some ⟨g7, 0, none⟩) (j + 1 + (n - j)) cap7)
    have hsf := hsd.far qod (by decide) 0 (.slice (some ⟨g7, 0, none⟩) (j + 1 + (n - j)) cap7)
    have hBf := HBd.out.setCell (p := ⟨w.heap.size + 1 + 1 + 1, 0, none⟩) (show w.heap.size ≤ w.heap.size + 1 + 1 + 1 by omega) (.slice (some ⟨g7, 0, none⟩) (j + 1 + (n - j)) cap7)
    have he := ent_of HE.out (HI.out.kept hBf) (HHy.out.kept hBf) HK.out.1 HK.out.2 hsf (show [(x1, x2, x3)].length ≤ m + 1 by simp) hnm
    rw [← HH.out] at he
    obtain ⟨hs', ns', h1, h2, h3⟩ := HS.out.ins (j := j) (d := 0) hBf (by rw [Hn.out]; exact hj) he (.inl rfl) (show j + 1 + (n - j) = _ by rw [List.length_append, List.length_append, List.length_take, List.length_drop, Hn.out]; simp; omega) (by have h9 := hownf; rw [← HXx.out, ← HD.out] at h9; exact h9)
    exact ⟨_, hs', ns', rfl, h1, h2, h3, hBf⟩
end Go.Proofs.YtfmjapfncjmcoaaGreatDoor.G
