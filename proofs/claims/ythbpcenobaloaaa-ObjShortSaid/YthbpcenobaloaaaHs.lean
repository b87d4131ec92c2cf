/- A scene out of a parameter's leaves. No program here. -/
import Derived.Test.YthbpcenobaloaaaGp
import Derived.Laws.BitsLemmas
namespace Go.Proofs.Ythbpcenobaloaaa.Hs
set_option linter.unusedVariables false
set_option linter.unusedSimpArgs false
open Go.RowKit Go.Proofs.Ythbpcenobaloaaa.Bt Go.Proofs.Ythbpcenobaloaaa.Wk Go.Proofs.Ythbpcenobaloaaa.Sg Go.Proofs.Ythbpcenobaloaaa.Gp

def f4 (a b c d : Int) (i : Nat) : Int := if i = 0 then a else if i = 1 then b else if i = 2 then c else d
def f8 (a b c d e f g h : Int) (i : Nat) : Int := if i < 4 then f4 a b c d i else f4 e f g h (i - 4)
theorem f4_bd {P : Int → Prop} {a b c d : Int} (ha : P a) (hb : P b) (hc : P c) (hd : P d) (i : Nat) : P (f4 a b c d i) := by
  unfold f4; (repeat' split) <;> assumption
theorem f8_bd {P : Int → Prop} {a b c d e f g h : Int} (ha : P a) (hb : P b) (hc : P c) (hd : P d) (he : P e) (hf : P f) (hg : P g) (hh : P h) (i : Nat) : P (f8 a b c d e f g h i) := by
  unfold f8; split
  · exact f4_bd ha hb hc hd i
  · exact f4_bd he hf hg hh (i - 4)
theorem wf_u8 {n : Int} (h : (Lit.int .u8 n).wf = true) : 0 ≤ n ∧ n < 256 := by simp [Lit.wf] at h; have a : IntKind.u8.min = 0 := rfl; have b : IntKind.u8.max = 255 := rfl; omega
theorem wf_u16 {n : Int} (h : (Lit.int .u16 n).wf = true) : 0 ≤ n ∧ n < 65536 := by simp [Lit.wf] at h; have a : IntKind.u16.min = 0 := rfl; have b : IntKind.u16.max = 65535 := rfl; omega
theorem wf_i16 {n : Int} (h : (Lit.int .i16 n).wf = true) : -32768 ≤ n ∧ n < 32768 := by simp [Lit.wf] at h; have a : IntKind.i16.min = -32768 := rfl; have b : IntKind.i16.max = 32767 := rfl; omega
theorem wf_i32 {n : Int} (h : (Lit.int .i32 n).wf = true) : -2147483648 ≤ n ∧ n < 2147483648 := by simp [Lit.wf] at h; have a : IntKind.i32.min = -2147483648 := rfl; have b : IntKind.i32.max = 2147483647 := rfl; omega
def scOf (c b0 b1 b2 b3 x0 x1 x2 x3 y0 y1 y2 y3 p0 p1 p2 p3 p4 p5 p6 p7 r0 r1 r2 r3 m : Int) (vA : Option Addr) (vn vc : Nat) (vf : Nat → Int) (qA : Option Addr) (qn qc : Nat) (qf : Nat → Int) (oA : Option Addr) (on oc : Nat) (of : Nat → Int) : Sc :=
  ⟨c, f4 b0 b1 b2 b3, f4 x0 x1 x2 x3, f4 y0 y1 y2 y3, f8 p0 p1 p2 p3 p4 p5 p6 p7, f4 r0 r1 r2 r3, m, ⟨vA, vn, vc, vf⟩, ⟨qA, qn, qc, qf⟩, ⟨oA, on, oc, of⟩⟩
section
variable {c b0 b1 b2 b3 x0 x1 x2 x3 y0 y1 y2 y3 p0 p1 p2 p3 p4 p5 p6 p7 r0 r1 r2 r3 m : Int} {vA : Option Addr} {vn vc : Nat} {vf : Nat → Int} {qA : Option Addr} {qn qc : Nat} {qf : Nat → Int} {oA : Option Addr} {on oc : Nat} {of : Nat → Int}
theorem sc_cells : (cellsS (scOf c b0 b1 b2 b3 x0 x1 x2 x3 y0 y1 y2 y3 p0 p1 p2 p3 p4 p5 p6 p7 r0 r1 r2 r3 m vA vn vc vf qA qn qc qf oA on oc of)).toArray = #[.int .u16 c, .int .u16 b0, .int .u16 b1, .int .u16 b2, .int .u16 b3, .int .u16 x0, .int .u16 x1, .int .u16 x2, .int .u16 x3, .int .u16 y0, .int .u16 y1, .int .u16 y2, .int .u16 y3, .int .i16 p0, .int .i16 p1, .int .i16 p2, .int .i16 p3, .int .i16 p4, .int .i16 p5, .int .i16 p6, .int .i16 p7, .int .i32 r0, .int .i32 r1, .int .i32 r2, .int .i32 r3, .int .u16 m, .slice vA vn vc, .slice qA qn qc, .slice oA on oc] := rfl
theorem sc_ok {w : World} (hc : (Lit.int .u16 c).wf = true) (hb0 : (Lit.int .u16 b0).wf = true) (hb1 : (Lit.int .u16 b1).wf = true) (hb2 : (Lit.int .u16 b2).wf = true) (hb3 : (Lit.int .u16 b3).wf = true) (hx0 : (Lit.int .u16 x0).wf = true) (hx1 : (Lit.int .u16 x1).wf = true) (hx2 : (Lit.int .u16 x2).wf = true) (hx3 : (Lit.int .u16 x3).wf = true) (hy0 : (Lit.int .u16 y0).wf = true) (hy1 : (Lit.int .u16 y1).wf = true) (hy2 : (Lit.int .u16 y2).wf = true) (hy3 : (Lit.int .u16 y3).wf = true) (hp0 : (Lit.int .i16 p0).wf = true) (hp1 : (Lit.int .i16 p1).wf = true) (hp2 : (Lit.int .i16 p2).wf = true) (hp3 : (Lit.int .i16 p3).wf = true) (hp4 : (Lit.int .i16 p4).wf = true) (hp5 : (Lit.int .i16 p5).wf = true) (hp6 : (Lit.int .i16 p6).wf = true) (hp7 : (Lit.int .i16 p7).wf = true) (hr0 : (Lit.int .i32 r0).wf = true) (hr1 : (Lit.int .i32 r1).wf = true) (hr2 : (Lit.int .i32 r2).wf = true) (hr3 : (Lit.int .i32 r3).wf = true) (hm : (Lit.int .u16 m).wf = true) (hvl : vn ≤ vc) (hvm : vc ≤ maxLen) (hve : Elts w vA vn 1 (fun i => [.int .u8 (vf i)])) (hvb : ∀ i, i < vn → (Lit.int .u8 (vf i)).wf = true ∧ True) (hql : qn ≤ qc) (hqm : qc ≤ maxLen) (hqe : Elts w qA qn 1 (fun i => [.int .u8 (qf i)])) (hqb : ∀ i, i < qn → (Lit.int .u8 (qf i)).wf = true ∧ True) (hol : on ≤ oc) (hom : oc ≤ maxLen) (hoe : Elts w oA on 1 (fun i => [.int .u8 (of i)])) (hob : ∀ i, i < on → (Lit.int .u8 (of i)).wf = true ∧ True) : Sok (scOf c b0 b1 b2 b3 x0 x1 x2 x3 y0 y1 y2 y3 p0 p1 p2 p3 p4 p5 p6 p7 r0 r1 r2 r3 m vA vn vc vf qA qn qc qf oA on oc of) where
  c0 := (wf_u16 hc).1
  c1 := (wf_u16 hc).2
  b := fun i _ => f4_bd (P := fun z => 0 ≤ z ∧ z < 65536) (wf_u16 hb0) (wf_u16 hb1) (wf_u16 hb2) (wf_u16 hb3) i
  x := fun i _ => f4_bd (P := fun z => 0 ≤ z ∧ z < 65536) (wf_u16 hx0) (wf_u16 hx1) (wf_u16 hx2) (wf_u16 hx3) i
  y := fun i _ => f4_bd (P := fun z => 0 ≤ z ∧ z < 65536) (wf_u16 hy0) (wf_u16 hy1) (wf_u16 hy2) (wf_u16 hy3) i
  p := fun i _ => f8_bd (P := fun z => -32768 ≤ z ∧ z < 32768) (wf_i16 hp0) (wf_i16 hp1) (wf_i16 hp2) (wf_i16 hp3) (wf_i16 hp4) (wf_i16 hp5) (wf_i16 hp6) (wf_i16 hp7) i
  r := fun i _ => f4_bd (P := fun z => -2147483648 ≤ z ∧ z < 2147483648) (wf_i32 hr0) (wf_i32 hr1) (wf_i32 hr2) (wf_i32 hr3) i
  m0 := (wf_u16 hm).1
  m1 := (wf_u16 hm).2
  vr := ⟨Nat.le_trans hvl hvm, fun i hi => wf_u8 (hvb i hi).1⟩
  pa := ⟨Nat.le_trans hql hqm, fun i hi => wf_u8 (hqb i hi).1⟩
  oa := ⟨Nat.le_trans hol hom, fun i hi => wf_u8 (hob i hi).1⟩
end
end Go.Proofs.Ythbpcenobaloaaa.Hs
