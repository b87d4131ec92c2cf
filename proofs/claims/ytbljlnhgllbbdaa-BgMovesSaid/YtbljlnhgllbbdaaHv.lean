/- BgDots, walked. -/
import Derived.Test.YtbljlnhgllbbdaaHu
namespace Go.Proofs.Ytbljlnhgllbbdaa.Hv
set_option linter.unusedVariables false
set_option linter.unusedSimpArgs false
open Go.RowKit Go.Proofs.Ytbljlnhgllbbdaa.Bt Go.Proofs.Ytbljlnhgllbbdaa.Wk Go.Proofs.Ytbljlnhgllbbdaa.Sg Go.Proofs.Ytbljlnhgllbbdaa.Gp Go.Proofs.Ytbljlnhgllbbdaa.Gm Go.Proofs.Ytbljlnhgllbbdaa.Gs Go.Proofs.Ytbljlnhgllbbdaa.Gh Go.Proofs.Ytbljlnhgllbbdaa.Gc Go.Proofs.Ytbljlnhgllbbdaa.Gv Go.Proofs.Ytbljlnhgllbbdaa.Gw Go.Proofs.Ytbljlnhgllbbdaa.Gx Go.Proofs.Ytbljlnhgllbbdaa.Gy Go.Proofs.Ytbljlnhgllbbdaa.Gz Go.Proofs.Ytbljlnhgllbbdaa.Hw Go.Proofs.Ytbljlnhgllbbdaa.Hs Go.Proofs.Ytbljlnhgllbbdaa.Hf Go.Proofs.Ytbljlnhgllbbdaa.Hl Go.Proofs.Ytbljlnhgllbbdaa.Hu

theorem line_ix (f : Nat → Int) {n : Nat} (h : n < 240) (w : World) : (Instr.index 42 (lineVal f) (.int .i64 n)).run Try.prog w = .ok (.int .u16 (f n)) w := by
  have h0 : (0 : Int) ≤ (n : Int) := by omega
  have h1 : (n : Int) < 240 := by omega
  have L := line_at f h
  unfold lineVal Instr.index
  generalize (lineC f).toArray = cs at *
  go_simp
/-- The bitmap of words. -/
def dotsS (s : Sc) (b2 line : Int) : Sc := { s with ctl := 1027, bg := upd s.bg 2 b2, par := upd (upd (upd (upd s.par 0 256) 1 0) 2 0) 3 256, ref := upd (upd s.ref 0 0) 1 (256 * line) }
theorem dots_ok {s : Sc} (k : Sok s) {b2 line : Int} (h0 : 0 ≤ b2) (h1 : b2 < 65536) (l0 : 0 ≤ line) (l1 : line < 160) : Sok (dotsS s b2 line) where
  c0 := by show (0 : Int) ≤ 1027; decide
  c1 := by show (1027 : Int) < 65536; decide
  b := fun i hi => by show 0 ≤ upd s.bg 2 b2 i ∧ upd s.bg 2 b2 i < 65536; unfold upd; split; exact ⟨h0, h1⟩; exact k.b i hi
  x := k.x
  y := k.y
  p := fun i hi => by
    show -32768 ≤ upd (upd (upd (upd s.par 0 256) 1 0) 2 0) 3 256 i ∧ upd (upd (upd (upd s.par 0 256) 1 0) 2 0) 3 256 i < 32768
    unfold upd
    (repeat' split) <;> first | decide | exact k.p i hi
  r := fun i hi => by
    show -2147483648 ≤ upd (upd s.ref 0 0) 1 (256 * line) i ∧ upd (upd s.ref 0 0) 1 (256 * line) i < 2147483648
    unfold upd
    (repeat' split) <;> first | omega | exact k.r i hi
  m0 := k.m0
  m1 := k.m1
  vr := k.vr
  pa := k.pa
  oa := k.oa
/-- What it shows. -/
theorem dots_line {s : Sc} {b2 line : Int} (hb : b2 / 64 % 2 = 0) (l0 : 0 ≤ line) (l1 : line < 160) {n : Nat} (hn : n < 240) : lineV (dotsS s b2 line) 2 line n = halfV s.vr (2 * (line * 240 + n)) % 32768 := by
  have hm : modeV (dotsS s b2 line) = 3 := rfl
  have hk : kindV (dotsS s b2 line) 2 = 3 := rfl
  have hs : shownV (dotsS s b2 line) 2 = true := rfl
  have ha : acrossV (dotsS s b2 line) 2 = 1 := if_pos hb
  have hd : downV (dotsS s b2 line) 2 = 1 := if_pos hb
  have e : lineV (dotsS s b2 line) 2 line n = turnedV (dotsS s b2 line) 0 line n := (if_pos ⟨hs, l0, l1⟩).trans (if_neg (by rw [hk]; decide))
  rw [e]
  unfold turnedV
  rw [show (0 + 2 : Nat) = 2 from rfl, ha, Int.emod_one, Int.sub_zero]
  have bx : begV (dotsS s b2 line) 0 line 0 1 = 0 := by
    unfold begV
    rw [show (0 + 2 : Nat) = 2 from rfl, hd, Int.emod_one]
    show w32 (0 - w32 (0 * 0)) = 0
    rfl
  have by' : begV (dotsS s b2 line) 0 line 1 3 = 256 * line := by
    unfold begV
    rw [show (0 + 2 : Nat) = 2 from rfl, hd, Int.emod_one]
    show w32 (256 * line - w32 (0 * 256)) = 256 * line
    rw [Int.zero_mul, w32_id (a := 0) (by decide) (by decide), Int.sub_zero]
    exact w32_id (by omega) (by omega)
  rw [bx, by']
  have px : stepV 0 ((dotsS s b2 line).par (0 * 4)) n / 256 = n := by
    show w32 (0 + (n : Int) * 256) / 256 = n
    rw [w32_id (by omega) (by omega)]
    omega
  have py : stepV (256 * line) ((dotsS s b2 line).par (0 * 4 + 2)) n / 256 = line := by
    show w32 (256 * line + (n : Int) * 0) / 256 = line
    rw [Int.mul_zero, Int.add_zero, w32_id (by omega) (by omega)]
    omega
  rw [px, py]
  unfold dotV
  rw [if_pos (show kindV (dotsS s b2 line) ((2 : Nat) : Int) = 3 from rfl)]
  unfold bitD
  rw [if_neg (by rw [hm]; decide), if_neg (by omega), if_pos hm]
  rfl
theorem tm160 (x : Int) : 0 ≤ Int.tmod x 160 % 160 ∧ Int.tmod x 160 % 160 < 160 := by omega
theorem tmb160 (x : Int) : -160 < Int.tmod x 160 ∧ Int.tmod x 160 < 160 := ⟨Int.lt_tmod_of_pos x (by decide), Int.tmod_lt_of_pos x (by decide)⟩
theorem andNot64 {a : Int} (h0 : 0 ≤ a) (h1 : a < 65536) : ∃ c, Go.bits .andNot .u16 a 64 = c ∧ 0 ≤ c ∧ c < 65536 ∧ c / 64 % 2 = 0 := by
  obtain ⟨n, rfl⟩ := Int.eq_ofNat_of_zero_le h0
  refine ⟨((n ^^^ (n &&& 64) : Nat) : Int), ?_, by omega, ?_, ?_⟩
  · exact andNot_nat .u16 ws_u16 n 64 (by simp [IntKind.bits]; omega) (by decide)
  · have := Nat.xor_lt_two_pow (x := n) (y := n &&& 64) (n := 16) (by omega) (Nat.and_lt_two_pow _ (by decide))
    omega
  · have t : (n ^^^ (n &&& 64)).testBit 6 = false := by
      rw [Nat.testBit_xor, Nat.testBit_and, show Nat.testBit 64 6 = true from by decide]
      cases n.testBit 6 <;> rfl
    rw [Nat.testBit_eq_decide_div_mod_eq, decide_eq_false_iff_not] at t
    omega
set_option maxRecDepth 100000 in
set_option maxHeartbeats 8000000 in
theorem dots_law (c b0 b1 b2 b3 x0 x1 x2 x3 y0 y1 y2 y3 p0 p1 p2 p3 p4 p5 p6 p7 r0 r1 r2 r3 m : Int) (vA : Option Addr) (vn vc : Nat) (vf : Nat → Int) (qA : Option Addr) (qn qc : Nat) (qf : Nat → Int) (oA : Option Addr) (on oc : Nat) (of : Nat → Int) (sd : Int) (A : Option Addr) (N cc : Nat) (f0 f1 : Nat → Int) (f2 : Nat → Option Addr) (f3 f4 : Nat → Nat) (f5 : Nat → Nat → Int) (line : Int) (w : World) (hc : (Lit.int .u16 c).wf = true) (hb0 : (Lit.int .u16 b0).wf = true) (hb1 : (Lit.int .u16 b1).wf = true) (hb2 : (Lit.int .u16 b2).wf = true) (hb3 : (Lit.int .u16 b3).wf = true) (hx0 : (Lit.int .u16 x0).wf = true) (hx1 : (Lit.int .u16 x1).wf = true) (hx2 : (Lit.int .u16 x2).wf = true) (hx3 : (Lit.int .u16 x3).wf = true) (hy0 : (Lit.int .u16 y0).wf = true) (hy1 : (Lit.int .u16 y1).wf = true) (hy2 : (Lit.int .u16 y2).wf = true) (hy3 : (Lit.int .u16 y3).wf = true) (hp0 : (Lit.int .i16 p0).wf = true) (hp1 : (Lit.int .i16 p1).wf = true) (hp2 : (Lit.int .i16 p2).wf = true) (hp3 : (Lit.int .i16 p3).wf = true) (hp4 : (Lit.int .i16 p4).wf = true) (hp5 : (Lit.int .i16 p5).wf = true) (hp6 : (Lit.int .i16 p6).wf = true) (hp7 : (Lit.int .i16 p7).wf = true) (hr0 : (Lit.int .i32 r0).wf = true) (hr1 : (Lit.int .i32 r1).wf = true) (hr2 : (Lit.int .i32 r2).wf = true) (hr3 : (Lit.int .i32 r3).wf = true) (hm : (Lit.int .u16 m).wf = true) (hvl : vn ≤ vc) (hvm : vc ≤ maxLen) (hve : Elts w vA vn 1 (fun i => [.int .u8 (vf i)])) (hvb : ∀ i, i < vn → (Lit.int .u8 (vf i)).wf = true ∧ True) (hql : qn ≤ qc) (hqm : qc ≤ maxLen) (hqe : Elts w qA qn 1 (fun i => [.int .u8 (qf i)])) (hqb : ∀ i, i < qn → (Lit.int .u8 (qf i)).wf = true ∧ True) (hol : on ≤ oc) (hom : oc ≤ maxLen) (hoe : Elts w oA on 1 (fun i => [.int .u8 (of i)])) (hob : ∀ i, i < on → (Lit.int .u8 (of i)).wf = true ∧ True) (hsd : (Lit.int .u32 sd).wf = true) (hNc : N ≤ cc) (hcm : cc ≤ maxLen) (hel : Elts w A N 3 (fun i => [.int .i64 (f0 i), .int .i64 (f1 i), .slice (f2 i) (f3 i) (f4 i)])) (hin : ∀ i, i < N → (Lit.int .i64 (f0 i)).wf = true ∧ (Lit.int .i64 (f1 i)).wf = true ∧ f3 i ≤ f4 i ∧ f4 i ≤ maxLen ∧ Elts w (f2 i) (f3 i) 1 (fun j => [.int .u8 (f5 i j)]) ∧ (∀ j, j < f3 i → (Lit.int .u8 (f5 i j)).wf = true ∧ True) ∧ True) (hline : (Lit.int .i64 line).wf = true) :
    Calls Try.prog 7 #[.agg #[.int .u16 c, .int .u16 b0, .int .u16 b1, .int .u16 b2, .int .u16 b3, .int .u16 x0, .int .u16 x1, .int .u16 x2, .int .u16 x3, .int .u16 y0, .int .u16 y1, .int .u16 y2, .int .u16 y3, .int .i16 p0, .int .i16 p1, .int .i16 p2, .int .i16 p3, .int .i16 p4, .int .i16 p5, .int .i16 p6, .int .i16 p7, .int .i32 r0, .int .i32 r1, .int .i32 r2, .int .i32 r3, .int .u16 m, .slice vA vn vc, .slice qA qn qc, .slice oA on oc, .int .u32 sd, .slice A N cc], .int .i64 line] w fun e w' => e = .returned (.bool true) ∧ Below w.heap.size w w' := by
  have K := sc_ok (w := w) hc hb0 hb1 hb2 hb3 hx0 hx1 hx2 hx3 hy0 hy1 hy2 hy3 hp0 hp1 hp2 hp3 hp4 hp5 hp6 hp7 hr0 hr1 hr2 hr3 hm hvl hvm hve hvb hql hqm hqe hqb hol hom hoe hob
  have LK : Lok w (scOf c b0 b1 b2 b3 x0 x1 x2 x3 y0 y1 y2 y3 p0 p1 p2 p3 p4 p5 p6 p7 r0 r1 r2 r3 m vA vn vc vf qA qn qc qf oA on oc of) sd A N ⟨f0, f1, f2, f3, f4, f5⟩ := look_ok K hsd hNc hcm hel hin
  have EC : #[.int .u16 c, .int .u16 b0, .int .u16 b1, .int .u16 b2, .int .u16 b3, .int .u16 x0, .int .u16 x1, .int .u16 x2, .int .u16 x3, .int .u16 y0, .int .u16 y1, .int .u16 y2, .int .u16 y3, .int .i16 p0, .int .i16 p1, .int .i16 p2, .int .i16 p3, .int .i16 p4, .int .i16 p5, .int .i16 p6, .int .i16 p7, .int .i32 r0, .int .i32 r1, .int .i32 r2, .int .i32 r3, .int .u16 m, .slice vA vn vc, .slice qA qn qc, .slice oA on oc, .int .u32 sd, .slice A N cc] = (lookL (scOf c b0 b1 b2 b3 x0 x1 x2 x3 y0 y1 y2 y3 p0 p1 p2 p3 p4 p5 p6 p7 r0 r1 r2 r3 m vA vn vc vf qA qn qc qf oA on oc of) sd A N cc).toArray := rfl
  rw [EC]
  clear EC K hc hb0 hb1 hb2 hb3 hx0 hx1 hx2 hx3 hy0 hy1 hy2 hy3 hp0 hp1 hp2 hp3 hp4 hp5 hp6 hp7 hr0 hr1 hr2 hr3 hm hvl hvm hve hvb hql hqm hqe hqb hol hom hoe hob hsd hNc hcm hel hin
  generalize scOf c b0 b1 b2 b3 x0 x1 x2 x3 y0 y1 y2 y3 p0 p1 p2 p3 p4 p5 p6 p7 r0 r1 r2 r3 m vA vn vc vf qA qn qc qf oA on oc of = s at *
  generalize (⟨f0, f1, f2, f3, f4, f5⟩ : Pd) = d at *
  clear hline
  have hb0 : Below w.heap.size w (w.alloc (.cells (lookL s sd A N cc).toArray 35)) := (Below.refl _ _).alloc (Nat.le_refl _) _
  have A0 := alloc_new w (.cells (lookL s sd A N cc).toArray 35)
  have LK0 := Lib.hid (LK.later hb0)
  have LS := look_len s sd A N cc
  clear LK
  obtain ⟨m0, m1⟩ := tm160 line
  obtain ⟨m2, m3⟩ := tmb160 line
  go_enter Try.func7, Try.ntmps7
  go_wp2_with fail
  generalize w.alloc (.cells (lookL s sd A N cc).toArray 35) = w0 at *
  refine (awake_any _).mono ?_
  rintro e w1 ⟨rfl, hb1⟩
  have A1 := Lib.hid (keep hb1 A0)
  have LK1 := Lib.hid (LK0.out.later hb1)
  have HB1 := Lib.hid (below_then hb0 hb1 hb0.size)
  have LSH := Lib.hid LS
  clear A0 LK0 hb0 hb1 LS
  go_wp2_with (refine wpList_load_row rfl 35 (.tmp 2) rfl w.heap.size rfl 35 _ (0, 0) _ A1.out Try.underlying35 rfl (by rw [LSH.out]; exact info_look) ?_)
  generalize Int.tmod line 160 % 160 = ln at *
  refine (look_filled cc LK1.out).mono ?_
  rintro e w2 ⟨sb, bv, bq, bo, rfl, F⟩
  have KK := LK1.out.k
  have KV := Lib.hid (patN_bd LK1.out.hs LK1.out.hb N (Nat.le_refl _))
  have F0 := Lib.hid F
  generalize hfv : memV sd d N 0 = fv at *
  generalize hfq : memV sd d N 1 = fq at *
  generalize hfo : memV sd d N 2 = fo at *
  have kv : ∀ i, 0 ≤ fv i ∧ fv i < 256 := fun i => by rw [← hfv]; exact KV.out 0 i
  have kq : ∀ i, 0 ≤ fq i ∧ fq i < 256 := fun i => by rw [← hfq]; exact KV.out 1 i
  have ko : ∀ i, 0 ≤ fo i ∧ fo i < 256 := fun i => by rw [← hfo]; exact KV.out 2 i
  obtain ⟨b0, b1⟩ := KK.b 2 (by decide)
  obtain ⟨b2, hb2, e0, e1, e2⟩ := andNot64 b0 b1
  have KVH := Lib.hid kv
  have KQH := Lib.hid kq
  have KOH := Lib.hid ko
  have KZ := Lib.hid (with_ok (dots_ok KK e0 e1 m0 m1) kv kq ko bv bq bo)
  have HBW := Lib.hid (below_then HB1.out F.be HB1.out.size)
  have BW : Hid (∀ {W}, Fil w1 (lookL s sd A N cc) sb bv bq bo (dotsS s b2 ln) fv fq fo W → Below w.heap.size w W) := Lib.hid fun h => below_then HB1.out h.be HB1.out.size
  clear hfv hfq hfo kv kq ko KK KV A1 LK1 HB1
  have C0 : w2.cell? ⟨sb, 0, none⟩ = some (.int .u16 s.ctl) := cellsAt F.at_ 0
  have C3 : w2.cell? ⟨sb, 3, none⟩ = some (.int .u16 (s.bg 2)) := cellsAt F.at_ 3
  have L2 := sizeAt F.at_
  have FR0 := freeAt F.at_ 0
  have FR3 := freeAt F.at_ 3
  generalize hbb : s.bg 2 = bb at *
  have HBB := Lib.hid hbb
  clear hbb F
  go_wp2_with fail
  go_region
  have F3 : Hid (Fil w1 (lookL s sd A N cc) sb bv bq bo { s with ctl := 1027, bg := upd s.bg 2 b2 } fv fq fo (((w2.setCell ⟨sb, 0, none⟩ (.int .u16 1027)).setCell ⟨sb, 3, none⟩ (.int .u16 b2)).drew)) :=
    Lib.hid ((Hl.Fil.set (k := 3) (v := .int .u16 b2) (s' := { s with ctl := 1027, bg := upd s.bg 2 b2 }) (Hl.Fil.set (k := 0) (v := .int .u16 1027) (s' := { s with ctl := 1027 }) F0.out rfl) rfl).drewN 1)
  generalize ((w2.setCell ⟨sb, 0, none⟩ (.int .u16 1027)).setCell ⟨sb, 3, none⟩ (.int .u16 b2)).drew = w3 at *
  clear C0 C3 L2 FR0 FR3 F0
  have P13 : w3.cell? ⟨sb, 13, none⟩ = some (.int .i16 (s.par 0)) := cellsAt F3.out.at_ 13
  have P14 : w3.cell? ⟨sb, 14, none⟩ = some (.int .i16 (s.par 1)) := cellsAt F3.out.at_ 14
  have P15 : w3.cell? ⟨sb, 15, none⟩ = some (.int .i16 (s.par 2)) := cellsAt F3.out.at_ 15
  have P16 : w3.cell? ⟨sb, 16, none⟩ = some (.int .i16 (s.par 3)) := cellsAt F3.out.at_ 16
  have P21 : w3.cell? ⟨sb, 21, none⟩ = some (.int .i32 (s.ref 0)) := cellsAt F3.out.at_ 21
  have P22 : w3.cell? ⟨sb, 22, none⟩ = some (.int .i32 (s.ref 1)) := cellsAt F3.out.at_ 22
  have FR := freeAt F3.out.at_
  have L3 := sizeAt F3.out.at_
  have F4 : Hid (Fil w1 (lookL s sd A N cc) sb bv bq bo (dotsS s b2 ln) fv fq fo ((((((w3.setCell ⟨sb, 13, none⟩ (.int .i16 256)).setCell ⟨sb, 14, none⟩ (.int .i16 0)).setCell ⟨sb, 15, none⟩ (.int .i16 0)).setCell ⟨sb, 16, none⟩ (.int .i16 256)).setCell ⟨sb, 21, none⟩ (.int .i32 0)).setCell ⟨sb, 22, none⟩ (.int .i32 (256 * ln)))) := by
    have a1 := Hl.Fil.set (k := 13) (v := .int .i16 256) (s' := { s with ctl := 1027, bg := upd s.bg 2 b2, par := upd s.par 0 256 }) F3.out rfl
    have a2 := Hl.Fil.set (k := 14) (v := .int .i16 0) (s' := { s with ctl := 1027, bg := upd s.bg 2 b2, par := upd (upd s.par 0 256) 1 0 }) a1 rfl
    have a3 := Hl.Fil.set (k := 15) (v := .int .i16 0) (s' := { s with ctl := 1027, bg := upd s.bg 2 b2, par := upd (upd (upd s.par 0 256) 1 0) 2 0 }) a2 rfl
    have a4 := Hl.Fil.set (k := 16) (v := .int .i16 256) (s' := { s with ctl := 1027, bg := upd s.bg 2 b2, par := upd (upd (upd (upd s.par 0 256) 1 0) 2 0) 3 256 }) a3 rfl
    have a5 := Hl.Fil.set (k := 21) (v := .int .i32 0) (s' := { s with ctl := 1027, bg := upd s.bg 2 b2, par := upd (upd (upd (upd s.par 0 256) 1 0) 2 0) 3 256, ref := upd s.ref 0 0 }) a4 rfl
    exact Lib.hid (Hl.Fil.set (k := 22) (v := .int .i32 (256 * ln)) (s' := dotsS s b2 ln) a5 rfl)
  go_upto_region 8 with fail
  generalize (((((w3.setCell ⟨sb, 13, none⟩ (.int .i16 256)).setCell ⟨sb, 14, none⟩ (.int .i16 0)).setCell ⟨sb, 15, none⟩ (.int .i16 0)).setCell ⟨sb, 16, none⟩ (.int .i16 256)).setCell ⟨sb, 21, none⟩ (.int .i32 0)).setCell ⟨sb, 22, none⟩ (.int .i32 (256 * ln)) = w4 at *
  clear P13 P14 P15 P16 P21 P22 FR L3 F3
  go_wp2_with fail
  refine (draw_any (Hl.Fil.sn F4.out) KZ.out 2 ln).mono ?_
  rintro e w5 ⟨rfl, hb5⟩
  have F5 := Lib.hid (Hl.Fil.later F4.out hb5)
  have DL : Hid (∀ n, n < 240 → lineV (withMem (dotsS s b2 ln) bv bq bo fv fq fo) 2 ln n = halfV ⟨some ⟨bv, 0, none⟩, 98304, 98304, fv⟩ (2 * (ln * 240 + n)) % 32768) :=
    Lib.hid fun n hn => dots_line (s := withMem s bv bq bo fv fq fo) e2 m0 m1 hn
  clear F4 hb5
  generalize lineV (withMem (dotsS s b2 ln) bv bq bo fv fq fo) 2 ln = G at *
  go_wp2_with fail
  go_loopw [46] (fun iv wr => ∃ (n q : Nat), iv = .int .i64 n ∧ n ≤ 240 ∧ wr = w5.drewN q) (fun iv _ => 240 - (intOf iv).toNat)
  case atStart => exact ⟨0, 0, rfl, by omega, rfl⟩
  case round =>
    obtain ⟨n, q, rfl, hn, rfl⟩ := hrel
    by_cases hlt : n < 240
    · have tt : decide ((n : Int) < 240) = true := by simp; omega
      have n0 : (0 : Int) ≤ (n : Int) := by omega
      have n1 : (n : Int) < 240 := by omega
      have IX := line_ix G hlt
      have F6 := F5.out.drewN q
      obtain ⟨l, hl⟩ := Int.eq_ofNat_of_zero_le m0
      subst hl
      have hin : 2 * (240 * l + n) + 1 < 98304 := by omega
      have CV : (w5.drewN q).cell? ⟨sb, 26, none⟩ = some (.slice (some ⟨bv, 0, none⟩) 98304 98304) := cellsAt F6.at_ 26
      have L6 := sizeAt F6.at_
      have LV := sizeAt F6.v
      have X0 : (w5.drewN q).cell? ⟨bv, 2 * (240 * l + n), none⟩ = some (.int .u8 (fv (2 * (240 * l + n)))) := by rw [cellsAt F6.v]; exact bytes_at _ (by omega)
      have X1 : (w5.drewN q).cell? ⟨bv, 2 * (240 * l + n) + 1, none⟩ = some (.int .u8 (fv (2 * (240 * l + n) + 1))) := by rw [cellsAt F6.v]; exact bytes_at _ (by omega)
      have B0 := KVH.out (2 * (240 * l + n))
      have B1 := KVH.out (2 * (240 * l + n) + 1)
      have OR := or_u16 B0.1 B0.2 B1.1 B1.2
      have GV := DL.out n hlt
      have HV : halfV ⟨some ⟨bv, 0, none⟩, 98304, 98304, fv⟩ (2 * ((l : Int) * 240 + n)) = fv (2 * (240 * l + n)) + 256 * fv (2 * (240 * l + n) + 1) := by
        unfold halfV
        rw [if_pos (by refine ⟨by omega, ?_⟩; show (2 * ((l : Int) * 240 + n)) < ((98304 : Nat) : Int) - 1; omega), show (2 * ((l : Int) * 240 + n)).toNat = 2 * (240 * l + n) by omega]
      rw [HV] at GV
      have HW : Hid (∀ m, ∃ q', (w5.drewN q).drewN m = w5.drewN q') := Lib.hid fun m => ⟨_, World.drewN_drewN _ _ _⟩
      have GH := Lib.hid GV
      clear GV HV F6
      generalize fv (2 * (240 * l + n)) = y0 at *
      generalize fv (2 * (240 * l + n) + 1) = y1 at *
      obtain ⟨y00, y01⟩ := B0
      obtain ⟨y10, y11⟩ := B1
      have s0 : 0 ≤ y0 + 256 * y1 := by omega
      have s1 : y0 + 256 * y1 < 65536 := by omega
      have ga : Go.bits .and .u16 (y0 + 256 * y1) 32767 = (y0 + 256 * y1) % 32768 := by have := and_mask_u16 s0 s1 15 (by decide); simpa using this
      generalize w5.drewN q = w6 at *
      go_wp2_with fail
      obtain ⟨t, ht⟩ : ∃ t, 2 * (240 * l + n) = t := ⟨_, rfl⟩
      rw [show 2 * (240 * (l : Int) + (n : Int)) = (t : Int) by omega]
      rw [ht] at X0 X1 hin
      have tI : (t : Int) + 1 < 98304 := by omega
      have t0 : (0 : Int) ≤ (t : Int) := by omega
      have t1 : (t : Int) < 98304 := by omega
      have t2 : (0 : Int) ≤ (t : Int) + 1 := by omega
      have u1 : IntKind.i64.wrap ((t : Int) + 1) = (t : Int) + 1 := i64_in (by omega) (by omega)
      have u2 : IntKind.u16.wrap (y1 * 256) = y1 * 256 := by rw [wrap_u16]; omega
      have u3 : IntKind.u16.wrap y0 = y0 := by rw [wrap_u16]; omega
      have u4 : IntKind.u16.wrap y1 = y1 := by rw [wrap_u16]; omega
      have HT := Lib.hid ht
      clear ht IX
      have GG := GH.out
      go_quiet (fail)
      clear u1 u2 u3 u4
      go_wp2_with fail
      obtain ⟨q', hq'⟩ := HW.out nq
      exact ⟨⟨n + 1, q', by go_num, by omega, hq'⟩, by simp [intOf]; omega⟩
    · have nn : n = 240 := by omega
      have tt : decide ((n : Int) < 240) = false := by simp; omega
      have HB5 := Lib.hid (BW.out (F5.out.drewN q))
      clear hlt nn F5
      generalize w5.drewN q = w6 at *
      go_wp2_with fail
      go_ret
      exact ⟨rfl, HB5.out⟩
end Go.Proofs.Ytbljlnhgllbbdaa.Hv
