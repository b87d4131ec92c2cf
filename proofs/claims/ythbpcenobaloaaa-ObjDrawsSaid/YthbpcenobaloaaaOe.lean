/- ObjDraws, walked. -/
import Derived.Test.YthbpcenobaloaaaOd
namespace Go.Proofs.Ythbpcenobaloaaa.Oe
set_option linter.unusedVariables false
set_option linter.unusedSimpArgs false
open Go.RowKit Go.Proofs.Ythbpcenobaloaaa.Bt Go.Proofs.Ythbpcenobaloaaa.Wk Go.Proofs.Ythbpcenobaloaaa.Sg Go.Proofs.Ythbpcenobaloaaa.Gp Go.Proofs.Ythbpcenobaloaaa.Gm Go.Proofs.Ythbpcenobaloaaa.Hs Go.Proofs.Ythbpcenobaloaaa.Hf Go.Proofs.Ythbpcenobaloaaa.Hl Go.Proofs.Ythbpcenobaloaaa.Nh Go.Proofs.Ythbpcenobaloaaa.Oa Go.Proofs.Ythbpcenobaloaaa.Oc Go.Proofs.Ythbpcenobaloaaa.Od

set_option maxRecDepth 100000 in
set_option maxHeartbeats 8000000 in
theorem draws_law (c b0 b1 b2 b3 x0 x1 x2 x3 y0 y1 y2 y3 p0 p1 p2 p3 p4 p5 p6 p7 r0 r1 r2 r3 m : Int) (vA : Option Addr) (vn vc : Nat) (vf : Nat → Int) (qA : Option Addr) (qn qc : Nat) (qf : Nat → Int) (oA : Option Addr) (on oc : Nat) (of : Nat → Int) (sd : Int) (A : Option Addr) (N cc : Nat) (f0 f1 f2 : Nat → Int) (A2 : Option Addr) (N2 cc2 : Nat) (g : Nat → Int) (line : Int) (w : World) (hc : (Lit.int .u16 c).wf = true) (hb0 : (Lit.int .u16 b0).wf = true) (hb1 : (Lit.int .u16 b1).wf = true) (hb2 : (Lit.int .u16 b2).wf = true) (hb3 : (Lit.int .u16 b3).wf = true) (hx0 : (Lit.int .u16 x0).wf = true) (hx1 : (Lit.int .u16 x1).wf = true) (hx2 : (Lit.int .u16 x2).wf = true) (hx3 : (Lit.int .u16 x3).wf = true) (hy0 : (Lit.int .u16 y0).wf = true) (hy1 : (Lit.int .u16 y1).wf = true) (hy2 : (Lit.int .u16 y2).wf = true) (hy3 : (Lit.int .u16 y3).wf = true) (hp0 : (Lit.int .i16 p0).wf = true) (hp1 : (Lit.int .i16 p1).wf = true) (hp2 : (Lit.int .i16 p2).wf = true) (hp3 : (Lit.int .i16 p3).wf = true) (hp4 : (Lit.int .i16 p4).wf = true) (hp5 : (Lit.int .i16 p5).wf = true) (hp6 : (Lit.int .i16 p6).wf = true) (hp7 : (Lit.int .i16 p7).wf = true) (hr0 : (Lit.int .i32 r0).wf = true) (hr1 : (Lit.int .i32 r1).wf = true) (hr2 : (Lit.int .i32 r2).wf = true) (hr3 : (Lit.int .i32 r3).wf = true) (hm : (Lit.int .u16 m).wf = true) (hvl : vn ≤ vc) (hvm : vc ≤ maxLen) (hve : Elts w vA vn 1 (fun i => [.int .u8 (vf i)])) (hvb : ∀ i, i < vn → (Lit.int .u8 (vf i)).wf = true ∧ True) (hql : qn ≤ qc) (hqm : qc ≤ maxLen) (hqe : Elts w qA qn 1 (fun i => [.int .u8 (qf i)])) (hqb : ∀ i, i < qn → (Lit.int .u8 (qf i)).wf = true ∧ True) (hol : on ≤ oc) (hom : oc ≤ maxLen) (hoe : Elts w oA on 1 (fun i => [.int .u8 (of i)])) (hob : ∀ i, i < on → (Lit.int .u8 (of i)).wf = true ∧ True) (hsd : (Lit.int .u32 sd).wf = true) (hNc : N ≤ cc) (hcm : cc ≤ maxLen) (hel : Elts w A N 3 (fun i => [.int .u16 (f0 i), .int .u16 (f1 i), .int .u16 (f2 i)])) (hin : ∀ i, i < N → (Lit.int .u16 (f0 i)).wf = true ∧ (Lit.int .u16 (f1 i)).wf = true ∧ (Lit.int .u16 (f2 i)).wf = true ∧ True) (hNc2 : N2 ≤ cc2) (hcm2 : cc2 ≤ maxLen) (hel2 : Elts w A2 N2 1 (fun i => [.int .i16 (g i)])) (hin2 : ∀ i, i < N2 → (Lit.int .i16 (g i)).wf = true ∧ True) (hline : (Lit.int .i64 line).wf = true) :
    Calls Try.prog 3 #[.agg #[.int .u16 c, .int .u16 b0, .int .u16 b1, .int .u16 b2, .int .u16 b3, .int .u16 x0, .int .u16 x1, .int .u16 x2, .int .u16 x3, .int .u16 y0, .int .u16 y1, .int .u16 y2, .int .u16 y3, .int .i16 p0, .int .i16 p1, .int .i16 p2, .int .i16 p3, .int .i16 p4, .int .i16 p5, .int .i16 p6, .int .i16 p7, .int .i32 r0, .int .i32 r1, .int .i32 r2, .int .i32 r3, .int .u16 m, .slice vA vn vc, .slice qA qn qc, .slice oA on oc, .int .u32 sd, .slice A N cc, .slice A2 N2 cc2], .int .i64 line] w fun e w' => e = .returned (.bool true) ∧ Below w.heap.size w w' := by
  have K := sc_ok (w := w) hc hb0 hb1 hb2 hb3 hx0 hx1 hx2 hx3 hy0 hy1 hy2 hy3 hp0 hp1 hp2 hp3 hp4 hp5 hp6 hp7 hr0 hr1 hr2 hr3 hm hvl hvm hve hvb hql hqm hqe hqb hol hom hoe hob
  have LK : Lo w A A2 ⟨N, N2, w3 f0 f1 f2, g⟩ := lo_ok hNc hcm hel hin hNc2 hcm2 hel2 hin2
  have SD := wf_u32 hsd
  have EC : #[.int .u16 c, .int .u16 b0, .int .u16 b1, .int .u16 b2, .int .u16 b3, .int .u16 x0, .int .u16 x1, .int .u16 x2, .int .u16 x3, .int .u16 y0, .int .u16 y1, .int .u16 y2, .int .u16 y3, .int .i16 p0, .int .i16 p1, .int .i16 p2, .int .i16 p3, .int .i16 p4, .int .i16 p5, .int .i16 p6, .int .i16 p7, .int .i32 r0, .int .i32 r1, .int .i32 r2, .int .i32 r3, .int .u16 m, .slice vA vn vc, .slice qA qn qc, .slice oA on oc, .int .u32 sd, .slice A N cc, .slice A2 N2 cc2] = ((cellsS (scOf c b0 b1 b2 b3 x0 x1 x2 x3 y0 y1 y2 y3 p0 p1 p2 p3 p4 p5 p6 p7 r0 r1 r2 r3 m vA vn vc vf qA qn qc qf oA on oc of)) ++ [Value.int .u32 sd, Value.slice A (⟨N, N2, w3 f0 f1 f2, g⟩ : Ok).N cc, Value.slice A2 (⟨N, N2, w3 f0 f1 f2, g⟩ : Ok).M cc2]).toArray := rfl
  rw [EC]
  clear EC hc hb0 hb1 hb2 hb3 hx0 hx1 hx2 hx3 hy0 hy1 hy2 hy3 hp0 hp1 hp2 hp3 hp4 hp5 hp6 hp7 hr0 hr1 hr2 hr3 hm hvl hvm hve hvb hql hqm hqe hqb hol hom hoe hob hsd hNc hcm hel hin hNc2 hcm2 hel2 hin2
  generalize scOf c b0 b1 b2 b3 x0 x1 x2 x3 y0 y1 y2 y3 p0 p1 p2 p3 p4 p5 p6 p7 r0 r1 r2 r3 m vA vn vc vf qA qn qc qf oA on oc of = s at *
  generalize (⟨N, N2, w3 f0 f1 f2, g⟩ : Ok) = d at *
  clear hline
  have LS := look_len s (.int .u32 sd) (.slice A d.N cc) (.slice A2 d.M cc2)
  have FA := Lib.hid (fun w' (h : Lo w' A A2 d) => filled_any K sd SD A A2 cc cc2 d _ rfl h)
  generalize ((cellsS s) ++ [Value.int .u32 sd, Value.slice A d.N cc, Value.slice A2 d.M cc2]) = L at *
  have hb0 : Below w.heap.size w (w.alloc (.cells L.toArray 36)) := (Below.refl _ _).alloc (Nat.le_refl _) _
  have A0 := alloc_new w (.cells L.toArray 36)
  have LK0 := Lib.hid (Lo.later LK hb0)
  clear LK
  go_enter Try.func3, Try.ntmps3
  go_wp2_with fail
  generalize w.alloc (.cells L.toArray 36) = w0 at *
  refine (awake_any _).mono ?_
  rintro e w1 ⟨rfl, hb1⟩
  have A1 := Lib.hid (keep hb1 A0)
  have LK1 := Lib.hid (Lo.later LK0.out hb1)
  have HB1 := Lib.hid (below_then hb0 hb1 hb0.size)
  have LSH := Lib.hid LS
  clear A0 LK0 hb0 hb1 LS
  go_wp2_with (refine wpList_load_row rfl 36 (.tmp 2) rfl w.heap.size rfl 36 _ (0, 0) _ A1.out Try.underlying36 rfl (by rw [LSH.out]; exact info_look) ?_)
  refine (FA.out w1 LK1.out).mono ?_
  rintro e w2 ⟨sb, bv, bq, bo, rfl, F⟩
  have S1 : Hid (Sn w2 sb 31 (fillS s sd d bv bq bo)) := Lib.hid (Hl.Fil.sn F)
  have KZ := Lib.hid (fill_ok K SD LK1.out bv bq bo)
  have HB2 : Hid (Below w.heap.size w w2) := Lib.hid (below_then HB1.out F.be HB1.out.size)
  generalize fillS s sd d bv bq bo = z at *
  clear F A1 LK1 HB1 K FA
  go_wp2_with fail
  refine (same_any S1.out KZ.out line).mono ?_
  rintro e w3 ⟨rfl, hb3⟩
  have HB3 := Lib.hid (below_then HB2.out hb3 HB2.out.size)
  clear hb3
  go_wp2_with fail
  go_ret
  exact ⟨rfl, HB3.out⟩
end Go.Proofs.Ythbpcenobaloaaa.Oe
