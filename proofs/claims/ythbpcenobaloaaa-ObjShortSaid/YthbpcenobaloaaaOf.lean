/- ObjShort, walked. -/
import Derived.Test.YthbpcenobaloaaaOc
namespace Go.Proofs.Ythbpcenobaloaaa.Of
set_option linter.unusedVariables false
set_option linter.unusedSimpArgs false
open Go.RowKit Go.Proofs.Ythbpcenobaloaaa.Bt Go.Proofs.Ythbpcenobaloaaa.Wk Go.Proofs.Ythbpcenobaloaaa.Sg Go.Proofs.Ythbpcenobaloaaa.Gp Go.Proofs.Ythbpcenobaloaaa.Gm Go.Proofs.Ythbpcenobaloaaa.Hs Go.Proofs.Ythbpcenobaloaaa.Nh Go.Proofs.Ythbpcenobaloaaa.Oc

set_option maxRecDepth 100000 in
set_option maxHeartbeats 8000000 in
theorem short_law (c b0 b1 b2 b3 x0 x1 x2 x3 y0 y1 y2 y3 p0 p1 p2 p3 p4 p5 p6 p7 r0 r1 r2 r3 m : Int) (vA : Option Addr) (vn vc : Nat) (vf : Nat → Int) (qA : Option Addr) (qn qc : Nat) (qf : Nat → Int) (oA : Option Addr) (on oc : Nat) (of : Nat → Int) (line : Int) (w : World) (hc : (Lit.int .u16 c).wf = true) (hb0 : (Lit.int .u16 b0).wf = true) (hb1 : (Lit.int .u16 b1).wf = true) (hb2 : (Lit.int .u16 b2).wf = true) (hb3 : (Lit.int .u16 b3).wf = true) (hx0 : (Lit.int .u16 x0).wf = true) (hx1 : (Lit.int .u16 x1).wf = true) (hx2 : (Lit.int .u16 x2).wf = true) (hx3 : (Lit.int .u16 x3).wf = true) (hy0 : (Lit.int .u16 y0).wf = true) (hy1 : (Lit.int .u16 y1).wf = true) (hy2 : (Lit.int .u16 y2).wf = true) (hy3 : (Lit.int .u16 y3).wf = true) (hp0 : (Lit.int .i16 p0).wf = true) (hp1 : (Lit.int .i16 p1).wf = true) (hp2 : (Lit.int .i16 p2).wf = true) (hp3 : (Lit.int .i16 p3).wf = true) (hp4 : (Lit.int .i16 p4).wf = true) (hp5 : (Lit.int .i16 p5).wf = true) (hp6 : (Lit.int .i16 p6).wf = true) (hp7 : (Lit.int .i16 p7).wf = true) (hr0 : (Lit.int .i32 r0).wf = true) (hr1 : (Lit.int .i32 r1).wf = true) (hr2 : (Lit.int .i32 r2).wf = true) (hr3 : (Lit.int .i32 r3).wf = true) (hm : (Lit.int .u16 m).wf = true) (hvl : vn ≤ vc) (hvm : vc ≤ maxLen) (hve : Elts w vA vn 1 (fun i => [.int .u8 (vf i)])) (hvb : ∀ i, i < vn → (Lit.int .u8 (vf i)).wf = true ∧ True) (hql : qn ≤ qc) (hqm : qc ≤ maxLen) (hqe : Elts w qA qn 1 (fun i => [.int .u8 (qf i)])) (hqb : ∀ i, i < qn → (Lit.int .u8 (qf i)).wf = true ∧ True) (hol : on ≤ oc) (hom : oc ≤ maxLen) (hoe : Elts w oA on 1 (fun i => [.int .u8 (of i)])) (hob : ∀ i, i < on → (Lit.int .u8 (of i)).wf = true ∧ True) (hline : (Lit.int .i64 line).wf = true) :
    Calls Try.prog 4 #[.agg #[.int .u16 c, .int .u16 b0, .int .u16 b1, .int .u16 b2, .int .u16 b3, .int .u16 x0, .int .u16 x1, .int .u16 x2, .int .u16 x3, .int .u16 y0, .int .u16 y1, .int .u16 y2, .int .u16 y3, .int .i16 p0, .int .i16 p1, .int .i16 p2, .int .i16 p3, .int .i16 p4, .int .i16 p5, .int .i16 p6, .int .i16 p7, .int .i32 r0, .int .i32 r1, .int .i32 r2, .int .i32 r3, .int .u16 m, .slice vA vn vc, .slice qA qn qc, .slice oA on oc], .int .i64 line] w fun e w' => e = .returned (.bool true) ∧ Below w.heap.size w w' := by
  have K := Lib.hid (sc_ok (w := w)  hc  hb0  hb1  hb2  hb3  hx0  hx1  hx2  hx3  hy0  hy1  hy2  hy3  hp0  hp1  hp2  hp3  hp4  hp5  hp6  hp7  hr0  hr1  hr2  hr3  hm  hvl  hvm  hve  hvb  hql  hqm  hqe  hqb  hol  hom  hoe  hob)
  have RV : Rd w ⟨vA, vn, vc, vf⟩ := hve
  have RP : Rd w ⟨qA, qn, qc, qf⟩ := hqe
  have RO : Rd w ⟨oA, on, oc, of⟩ := hoe
  have hvm' : vn ≤ maxLen := Nat.le_trans hvl hvm
  have hqm' : on ≤ maxLen := Nat.le_trans hol hom
  clear hc hb0 hb1 hb2 hb3 hx0 hx1 hx2 hx3 hy0 hy1 hy2 hy3 hp0 hp1 hp2 hp3 hp4 hp5 hp6 hp7 hr0 hr1 hr2 hr3 hm hvl hvm hve hvb hql hqm hqe hqb hol hom hoe hob hline
  rw [← sc_cells (vf := vf) (qf := qf) (of := of)]
  generalize hS : scOf c b0 b1 b2 b3 x0 x1 x2 x3 y0 y1 y2 y3 p0 p1 p2 p3 p4 p5 p6 p7 r0 r1 r2 r3 m vA vn vc vf qA qn qc qf oA on oc of = s at *
  have cv : svc s 26 = .slice vA vn vc := by rw [← hS]; rfl
  have cp : svc s 28 = .slice oA on oc := by rw [← hS]; rfl
  have RV' : Rd w s.vr := by rw [← hS]; exact RV
  have RP' : Rd w s.pa := by rw [← hS]; exact RP
  have RO' : Rd w s.oa := by rw [← hS]; exact RO
  have S0 : Sn (w.alloc (.cells (cellsS s).toArray 31)) w.heap.size 31 s := by
    have hb : Below w.heap.size w (w.alloc (.cells (cellsS s).toArray 31)) := (Below.refl _ _).alloc (Nat.le_refl _) _
    exact ⟨alloc_new _ _, RV'.later hb, RP'.later hb, RO'.later hb⟩
  clear RV RP RO RV' RP' RO' hS
  have hb0 : Below w.heap.size w (w.alloc (.cells (cellsS s).toArray 31)) := (Below.refl _ _).alloc (Nat.le_refl _) _
  unfold maxLen at hvm' hqm'
  go_enter Try.func4, Try.ntmps4
  go_wp2_with fail
  generalize w.alloc (.cells (cellsS s).toArray 31) = w0 at *
  refine (awake_any _).mono ?_
  rintro e w1 ⟨rfl, hb1⟩
  have S1 := S0.later hb1
  have HB1 := Lib.hid (below_then hb0 hb1 hb0.size)
  clear S0 hb0 hb1
  have CV := S1.cell (k := 26) (by decide)
  have CP := S1.cell (k := 28) (by decide)
  rw [cv] at CV
  rw [cp] at CP
  have SH1 := Lib.hid S1
  have hvm2 : (vn : Int) ≤ 9223372036854775807 := by omega
  have hqm2 : (on : Int) ≤ 9223372036854775807 := by omega
  have LS := S1.lt
  clear S1 hvm' hqm' cv cp
  by_cases g : 200000 < vn ∨ 3000 < on
  · have g' : (decide ((200000 : Int) < (vn : Int)) = true) ∨ (decide ((200000 : Int) < (vn : Int)) = false ∧ decide ((3000 : Int) < (on : Int)) = true) := by
      simp only [decide_eq_true_eq, decide_eq_false_iff_not]; omega
    clear g
    rcases g' with u | ⟨u, u1⟩
    all_goals
      go_wp2
      go_ret
      exact ⟨rfl, HB1.out⟩
  · have u : decide ((200000 : Int) < (vn : Int)) = false := by simp; omega
    have u1 : decide ((3000 : Int) < (on : Int)) = false := by simp; omega
    clear g
    go_wp2_with fail
    refine (same_any SH1.out K.out line).mono ?_
    rintro e w3 ⟨rfl, hb3⟩
    have HB3 := Lib.hid (below_then HB1.out hb3 HB1.out.size)
    clear hb3 CV CP
    go_wp2_with fail
    go_ret
    exact ⟨rfl, HB3.out⟩
end Go.Proofs.Ythbpcenobaloaaa.Of
