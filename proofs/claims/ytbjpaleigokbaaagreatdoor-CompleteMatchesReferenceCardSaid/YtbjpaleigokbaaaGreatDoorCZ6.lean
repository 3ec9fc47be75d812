/- Contract of the reference's check of whole proofs; the granted hypotheses. -/
import Derived.Test.YtbjpaleigokbaaaGreatDoorCZ5
namespace Go.Proofs.YtbjpaleigokbaaaGreatDoor.G
open Go.RowKit Go.Shelf Go.Proofs.YtbjpaleigokbaaaGreatDoor

/-- the granted hypotheses -/
def gl (g : Bool) : List Nat := if g = true then [1] else []
theorem gl_len (g : Bool) : (gl g).length ≤ 10 := by cases g <;> simp [gl]
theorem hyps_calls (g : Bool) (w : World) : Calls Tryz.prog 11 #[.bool g] w fun e w' => ∃ A n c, e = .returned (.slice A n c) ∧ RdG w' (.slice A n c) (gl g) ∧ Below w.heap.size w w' := by
  cases g with
  | false =>
    go_enter Tryz.func11, Tryz.ntmps11
    go_wp2_with fail
    go_ret
    exact ⟨_, _, _, rfl, rdG_nil _, Below.refl _ _⟩
  | true =>
    have hal := (Below.refl w.heap.size w).alloc (Nat.le_refl _) (.cells #[.int .i64 (1 : Nat)] 3)
    have hr := rdG_1 w 1
    go_enter Tryz.func11, Tryz.ntmps11
    go_wp2_with fail
    go_ret
    exact ⟨_, _, _, rfl, hr, hal⟩

set_option maxRecDepth 100000 in
set_option maxHeartbeats 8000000 in
theorem rCheckFull (k lo hi d : Nat) (h : TabOk k lo hi d) (T : TOk k lo hi d) (m : Nat) (v gv : Value) (G : List Nat) (hs : List (List Value)) (ns : List Lb) (w : World) (hS : ShE w m v hs ns) (hn : ns.length ≤ 10000) (hr : RdG w gv G) (hGl : G.length ≤ 10)
    (An Am : Option Addr) (nn cn mm cm : Nat) (hF : Full w k lo hi d An nn cn Am mm cm) :
    Calls Tryz.prog 19 #[.agg #[.int .i64 k, .int .i64 lo, .int .i64 hi, .int .i64 d, .slice An nn cn, .slice Am mm cm], .agg #[v], gv] w fun e w' => e = .returned (.int .i64 (if missF (objN k lo hi d) (heldB G ns) = [] then 0 else 370)) ∧ Below w.heap.size w w' := by
  have HMk := Lib.hid (fun W (hb : Below w.heap.size w W) => MakeIn_calls k lo hi d h T m v gv G hs ns W (hS.kept hb) hn (hr.kept hb) hGl)
  have HSm := Lib.hid (fun Bn Bm pn dn pm dm W (hb : Below w.heap.size w W) (hB : Full W k lo hi d Bn pn dn Bm pm dm) => rSameFull k lo hi d h An Am Bn Bm nn cn mm cm pn dn pm dm W (hF.kept hb) hB)
  obtain ⟨_, Ag, cg, rfl, _, _⟩ := hr
  obtain ⟨Av, nv, cv, rfl⟩ := hS.slice
  clear hS hF h T
  generalize heldB G ns = f at *
  generalize G.length = ng at *
  generalize hres : (if missF (objN k lo hi d) f = [] then (0 : Int) else 370) = res
  have HRes := Lib.hid hres
  clear hres
  have z3 := (Bk.new w 46 #[.int .i64 k, .int .i64 lo, .int .i64 hi, .int .i64 d, .slice An nn cn, .slice Am mm cm]).alloc (.cells #[.slice Av nv cv] 33)
  have z4 := Bk.new (w.alloc (.cells #[.int .i64 k, .int .i64 lo, .int .i64 hi, .int .i64 d, .slice An nn cn, .slice Am mm cm] 46)) 33 #[.slice Av nv cv]
  have hB0 : Below w.heap.size w ((w.alloc (.cells #[.int .i64 k, .int .i64 lo, .int .i64 hi, .int .i64 d, .slice An nn cn, .slice Am mm cm] 46)).alloc (.cells #[.slice Av nv cv] 33)) := ((Below.refl _ _).alloc (Nat.le_refl _) _).alloc (by simp) _
  simp only [World.size_alloc] at z4
  go_enter Tryz.func19, Tryz.ntmps19
  go_upto_region 1 with (fail)
  generalize (w.alloc (.cells #[.int .i64 k, .int .i64 lo, .int .i64 hi, .int .i64 d, .slice An nn cn, .slice Am mm cm] 46)).alloc (.cells #[.slice Av nv cv] 33) = W0 at *
  have p0 := z3.cell 0
  have p1 := z3.cell 1
  have p2 := z3.cell 2
  have p3 := z3.cell 3
  have pl := z3.lt
  have y0 := z4.cell 0
  have yl := z4.lt
  go_wp2_with fail
  refine (HMk.out _ hB0).mono ?_
  rintro e w1 ⟨c0, c1, c2, c3, Bn, pn, dn, Bm, pm, dm, er, rfl, hW, hB1⟩
  have z3 := z3.kept hB1
  have hB := hB0.trans (hB1.mono hB0.size)
  have HW := Lib.hid hW
  clear hW hB1 hB0 p0 p1 p2 p3 pl y0 yl z4
  go_upto_region 2 with (refine storeNewP A_made rfl _ _ rfl rfl rfl #[.int .i64 c0, .int .i64 c1, .int .i64 c2, .int .i64 c3, .slice Bn pn dn, .slice Bm pm dm, .int .i64 er] rfl rfl rfl (by simp [Value.oneCell']) ?_; intro X7 q7 hB7)
  have z3 := z3.kept hB7
  have hBx := hB.trans (hB7.mono hB.size)
  have HW7 := Lib.hid (HW.out.kept hB7)
  clear HW hB hB7
  generalize w1.heap.size = b7 at *
  have c76 := q7.cell 6
  have l7 := q7.lt
  by_cases hm : missF (objN k lo hi d) f = []
  · have her := HW7.out.wh.er
    rw [if_pos hm] at her
    obtain ⟨e0, e1, e2, e3, hFl⟩ := HW7.out.wh.full hm
    subst her e0 e1 e2 e3
    have HR0 := Lib.hid (show res = 0 by rw [← HRes.out, if_pos hm])
    have HS := Lib.hid (HSm.out _ _ _ _ _ _ _ hBx hFl)
    have HB := Lib.hid hBx
    have p0 := z3.cell 0
    have p1 := z3.cell 1
    have p2 := z3.cell 2
    have p3 := z3.cell 3
    have p4 := z3.cell 4
    have p5 := z3.cell 5
    have pl := z3.lt
    have c70 := q7.cell 0
    have c71 := q7.cell 1
    have c72 := q7.cell 2
    have c73 := q7.cell 3
    have c74 := q7.cell 4
    have c75 := q7.cell 5
    clear hFl hBx HW7 hm z3 q7
    go_wp2_with fail
    refine HS.out.mono ?_
    rintro e w9 ⟨rfl, hB9⟩
    have HB9 := Lib.hid (HB.out.trans (hB9.mono HB.out.size))
    clear hB9
    go_wp2_with fail
    go_ret
    exact ⟨by rw [HR0.out]; rfl, HB9.out⟩
  · have her := HW7.out.wh.er
    rw [if_neg hm] at her
    subst her
    have HR0 := Lib.hid (show res = 370 by rw [← HRes.out, if_neg hm])
    have HB := Lib.hid hBx
    clear hBx HW7 hm z3
    go_wp2_with fail
    go_ret
    exact ⟨by rw [HR0.out]; rfl, HB.out⟩

end Go.Proofs.YtbjpaleigokbaaaGreatDoor.G
