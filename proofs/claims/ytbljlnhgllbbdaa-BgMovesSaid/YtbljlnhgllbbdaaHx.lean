/- BgMoves, walked. -/
import Derived.Test.YtbljlnhgllbbdaaHv
namespace Go.Proofs.Ytbljlnhgllbbdaa.Hx
set_option linter.unusedVariables false
set_option linter.unusedSimpArgs false
open Go.RowKit Go.Proofs.Ytbljlnhgllbbdaa.Bt Go.Proofs.Ytbljlnhgllbbdaa.Wk Go.Proofs.Ytbljlnhgllbbdaa.Sg Go.Proofs.Ytbljlnhgllbbdaa.Gp Go.Proofs.Ytbljlnhgllbbdaa.Gm Go.Proofs.Ytbljlnhgllbbdaa.Gs Go.Proofs.Ytbljlnhgllbbdaa.Gh Go.Proofs.Ytbljlnhgllbbdaa.Gc Go.Proofs.Ytbljlnhgllbbdaa.Gt Go.Proofs.Ytbljlnhgllbbdaa.Gv Go.Proofs.Ytbljlnhgllbbdaa.Gw Go.Proofs.Ytbljlnhgllbbdaa.Gx Go.Proofs.Ytbljlnhgllbbdaa.Gy Go.Proofs.Ytbljlnhgllbbdaa.Gz Go.Proofs.Ytbljlnhgllbbdaa.Hw Go.Proofs.Ytbljlnhgllbbdaa.Hs Go.Proofs.Ytbljlnhgllbbdaa.Hf Go.Proofs.Ytbljlnhgllbbdaa.Hl Go.Proofs.Ytbljlnhgllbbdaa.Hu Go.Proofs.Ytbljlnhgllbbdaa.Hv

theorem ctl_moves {a : Int} (h0 : 0 ≤ a) (h1 : a < 65536) : ∃ c d, Go.bits .andNot .u16 a 135 = c ∧ Go.bits .or .u16 c 256 = d ∧ 0 ≤ d ∧ d < 65536 ∧ d % 8 = 0 ∧ d / 128 % 2 = 0 ∧ d / 256 % 2 = 1 := by
  obtain ⟨n, rfl⟩ := Int.eq_ofNat_of_zero_le h0
  have hx : n ^^^ (n &&& 135) < 2 ^ 16 := Nat.xor_lt_two_pow (by omega) (Nat.and_lt_two_pow _ (by decide))
  have hm : (n ^^^ (n &&& 135)) ||| 256 < 2 ^ 16 := Nat.or_lt_two_pow hx (by decide)
  refine ⟨((n ^^^ (n &&& 135) : Nat) : Int), (((n ^^^ (n &&& 135)) ||| 256 : Nat) : Int), andNot_nat .u16 ws_u16 n 135 (by simp [IntKind.bits]; omega) (by decide), or_nat .u16 ws_u16 _ 256 hx (by decide), by omega, by omega, ?_, ?_, ?_⟩
  all_goals
    have tb : ∀ i, ((n ^^^ (n &&& 135)) ||| 256).testBit i = (((n.testBit i) ^^ (n.testBit i && Nat.testBit 135 i)) || Nat.testBit 256 i) := fun i => by rw [Nat.testBit_or, Nat.testBit_xor, Nat.testBit_and]
    generalize (n ^^^ (n &&& 135)) ||| 256 = m at *
  · have t0 : m.testBit 0 = false := by rw [tb, show Nat.testBit 135 0 = true from by decide, show Nat.testBit 256 0 = false from by decide]; cases n.testBit 0 <;> rfl
    have t1 : m.testBit 1 = false := by rw [tb, show Nat.testBit 135 1 = true from by decide, show Nat.testBit 256 1 = false from by decide]; cases n.testBit 1 <;> rfl
    have t2 : m.testBit 2 = false := by rw [tb, show Nat.testBit 135 2 = true from by decide, show Nat.testBit 256 2 = false from by decide]; cases n.testBit 2 <;> rfl
    rw [Nat.testBit_eq_decide_div_mod_eq, decide_eq_false_iff_not] at t0 t1 t2
    omega
  · have t7 : m.testBit 7 = false := by rw [tb, show Nat.testBit 135 7 = true from by decide, show Nat.testBit 256 7 = false from by decide]; cases n.testBit 7 <;> rfl
    rw [Nat.testBit_eq_decide_div_mod_eq, decide_eq_false_iff_not] at t7
    omega
  · have t8 : m.testBit 8 = true := by rw [tb, show Nat.testBit 256 8 = true from by decide, Bool.or_true]
    rw [Nat.testBit_eq_decide_div_mod_eq, decide_eq_true_eq] at t8
    omega
def movesS (s : Sc) (d b0 : Int) : Sc := { s with ctl := d, bg := upd s.bg 0 b0 }
def movesT (s : Sc) (d b0 x0 : Int) : Sc := { s with ctl := d, bg := upd s.bg 0 b0, xs := upd s.xs 0 x0 }
theorem movesS_ok {s : Sc} (k : Sok s) {d b0 : Int} (h0 : 0 ≤ d) (h1 : d < 65536) (c0 : 0 ≤ b0) (c1 : b0 < 65536) : Sok (movesS s d b0) where
  c0 := h0
  c1 := h1
  b := fun i hi => by show 0 ≤ upd s.bg 0 b0 i ∧ upd s.bg 0 b0 i < 65536; unfold upd; split; exact ⟨c0, c1⟩; exact k.b i hi
  x := k.x
  y := k.y
  p := k.p
  r := k.r
  m0 := k.m0
  m1 := k.m1
  vr := k.vr
  pa := k.pa
  oa := k.oa
theorem movesT_ok {s : Sc} (k : Sok s) {d b0 x0 : Int} (h0 : 0 ≤ d) (h1 : d < 65536) (c0 : 0 ≤ b0) (c1 : b0 < 65536) (y0 : 0 ≤ x0) (y1 : x0 < 65536) : Sok (movesT s d b0 x0) where
  c0 := h0
  c1 := h1
  b := fun i hi => by show 0 ≤ upd s.bg 0 b0 i ∧ upd s.bg 0 b0 i < 65536; unfold upd; split; exact ⟨c0, c1⟩; exact k.b i hi
  x := fun i hi => by show 0 ≤ upd s.xs 0 x0 i ∧ upd s.xs 0 x0 i < 65536; unfold upd; split; exact ⟨y0, y1⟩; exact k.x i hi
  y := k.y
  p := k.p
  r := k.r
  m0 := k.m0
  m1 := k.m1
  vr := k.vr
  pa := k.pa
  oa := k.oa
theorem line_text {z : Sc} (h8 : z.ctl % 8 = 0) (h7 : z.ctl / 128 % 2 = 0) (hc : z.ctl / 256 % 2 = 1) {line : Int} (l0 : 0 ≤ line) (l1 : line < 160) (n : Nat) : lineV z 0 line n = textV z 0 line n := by
  have hk : kindV z 0 = 1 := if_pos h8
  have hs : shownV z 0 = true := by
    unfold shownV
    rw [hk, show (2 : Int) ^ (8 + (0 : Int).toNat) = 256 from rfl, hc, h7]
    rfl
  exact (if_pos ⟨hs, l0, l1⟩).trans (if_pos hk)
theorem moves_line {s : Sc} {d b0 x0 by' : Int} (h8 : d % 8 = 0) (h7 : d / 128 % 2 = 0) (hc : d / 256 % 2 = 1) (hb : b0 / 64 % 2 = 0) (hx : x0 = (s.xs 0 + by') % 65536) {n m : Nat} (hm : (m : Int) = n + by') :
    lineV (movesT s d b0 x0) 0 7 n = lineV (movesS s d b0) 0 7 m := by
  rw [line_text h8 h7 hc (by decide) (by decide), line_text h8 h7 hc (by decide) (by decide)]
  have aT : acrossV (movesT s d b0 x0) 0 = 1 := if_pos hb
  have aS : acrossV (movesS s d b0) 0 = 1 := if_pos hb
  have eA : textA (movesT s d b0 x0) 0 n = textA (movesS s d b0) 0 m := by
    unfold textA
    rw [aT, aS, Int.emod_one, Int.emod_one, Int.sub_zero, Int.sub_zero]
    show (n + x0 % 512) % wideV b0 = (m + s.xs 0 % 512) % wideV b0
    have hw : wideV b0 = 256 ∨ wideV b0 = 512 := by unfold wideV; omega
    rw [hx, hm]
    rcases hw with e | e <;> rw [e] <;> omega
  unfold textV
  rw [eA]
  rfl
theorem tm200 (x : Int) : 0 ≤ Int.tmod x 200 % 200 ∧ Int.tmod x 200 % 200 < 200 := by omega
theorem tmb200 (x : Int) : -200 < Int.tmod x 200 ∧ Int.tmod x 200 < 200 := ⟨Int.lt_tmod_of_pos x (by decide), Int.tmod_lt_of_pos x (by decide)⟩
set_option maxRecDepth 100000 in
set_option maxHeartbeats 8000000 in
theorem moves_law (c b0 b1 b2 b3 x0 x1 x2 x3 y0 y1 y2 y3 p0 p1 p2 p3 p4 p5 p6 p7 r0 r1 r2 r3 m : Int) (vA : Option Addr) (vn vc : Nat) (vf : Nat → Int) (qA : Option Addr) (qn qc : Nat) (qf : Nat → Int) (oA : Option Addr) (on oc : Nat) (of : Nat → Int) (sd : Int) (A : Option Addr) (N cc : Nat) (f0 f1 : Nat → Int) (f2 : Nat → Option Addr) (f3 f4 : Nat → Nat) (f5 : Nat → Nat → Int) (bz : Int) (w : World) (hc : (Lit.int .u16 c).wf = true) (hb0 : (Lit.int .u16 b0).wf = true) (hb1 : (Lit.int .u16 b1).wf = true) (hb2 : (Lit.int .u16 b2).wf = true) (hb3 : (Lit.int .u16 b3).wf = true) (hx0 : (Lit.int .u16 x0).wf = true) (hx1 : (Lit.int .u16 x1).wf = true) (hx2 : (Lit.int .u16 x2).wf = true) (hx3 : (Lit.int .u16 x3).wf = true) (hy0 : (Lit.int .u16 y0).wf = true) (hy1 : (Lit.int .u16 y1).wf = true) (hy2 : (Lit.int .u16 y2).wf = true) (hy3 : (Lit.int .u16 y3).wf = true) (hp0 : (Lit.int .i16 p0).wf = true) (hp1 : (Lit.int .i16 p1).wf = true) (hp2 : (Lit.int .i16 p2).wf = true) (hp3 : (Lit.int .i16 p3).wf = true) (hp4 : (Lit.int .i16 p4).wf = true) (hp5 : (Lit.int .i16 p5).wf = true) (hp6 : (Lit.int .i16 p6).wf = true) (hp7 : (Lit.int .i16 p7).wf = true) (hr0 : (Lit.int .i32 r0).wf = true) (hr1 : (Lit.int .i32 r1).wf = true) (hr2 : (Lit.int .i32 r2).wf = true) (hr3 : (Lit.int .i32 r3).wf = true) (hm : (Lit.int .u16 m).wf = true) (hvl : vn ≤ vc) (hvm : vc ≤ maxLen) (hve : Elts w vA vn 1 (fun i => [.int .u8 (vf i)])) (hvb : ∀ i, i < vn → (Lit.int .u8 (vf i)).wf = true ∧ True) (hql : qn ≤ qc) (hqm : qc ≤ maxLen) (hqe : Elts w qA qn 1 (fun i => [.int .u8 (qf i)])) (hqb : ∀ i, i < qn → (Lit.int .u8 (qf i)).wf = true ∧ True) (hol : on ≤ oc) (hom : oc ≤ maxLen) (hoe : Elts w oA on 1 (fun i => [.int .u8 (of i)])) (hob : ∀ i, i < on → (Lit.int .u8 (of i)).wf = true ∧ True) (hsd : (Lit.int .u32 sd).wf = true) (hNc : N ≤ cc) (hcm : cc ≤ maxLen) (hel : Elts w A N 3 (fun i => [.int .i64 (f0 i), .int .i64 (f1 i), .slice (f2 i) (f3 i) (f4 i)])) (hin : ∀ i, i < N → (Lit.int .i64 (f0 i)).wf = true ∧ (Lit.int .i64 (f1 i)).wf = true ∧ f3 i ≤ f4 i ∧ f4 i ≤ maxLen ∧ Elts w (f2 i) (f3 i) 1 (fun j => [.int .u8 (f5 i j)]) ∧ (∀ j, j < f3 i → (Lit.int .u8 (f5 i j)).wf = true ∧ True) ∧ True) (hbz : (Lit.int .i64 bz).wf = true) :
    Calls Try.prog 5 #[.agg #[.int .u16 c, .int .u16 b0, .int .u16 b1, .int .u16 b2, .int .u16 b3, .int .u16 x0, .int .u16 x1, .int .u16 x2, .int .u16 x3, .int .u16 y0, .int .u16 y1, .int .u16 y2, .int .u16 y3, .int .i16 p0, .int .i16 p1, .int .i16 p2, .int .i16 p3, .int .i16 p4, .int .i16 p5, .int .i16 p6, .int .i16 p7, .int .i32 r0, .int .i32 r1, .int .i32 r2, .int .i32 r3, .int .u16 m, .slice vA vn vc, .slice qA qn qc, .slice oA on oc, .int .u32 sd, .slice A N cc], .int .i64 bz] w fun e w' => e = .returned (.bool true) ∧ Below w.heap.size w w' := by
  have K := sc_ok (w := w) hc hb0 hb1 hb2 hb3 hx0 hx1 hx2 hx3 hy0 hy1 hy2 hy3 hp0 hp1 hp2 hp3 hp4 hp5 hp6 hp7 hr0 hr1 hr2 hr3 hm hvl hvm hve hvb hql hqm hqe hqb hol hom hoe hob
  have LK : Lok w (scOf c b0 b1 b2 b3 x0 x1 x2 x3 y0 y1 y2 y3 p0 p1 p2 p3 p4 p5 p6 p7 r0 r1 r2 r3 m vA vn vc vf qA qn qc qf oA on oc of) sd A N ⟨f0, f1, f2, f3, f4, f5⟩ := look_ok K hsd hNc hcm hel hin
  have EC : #[.int .u16 c, .int .u16 b0, .int .u16 b1, .int .u16 b2, .int .u16 b3, .int .u16 x0, .int .u16 x1, .int .u16 x2, .int .u16 x3, .int .u16 y0, .int .u16 y1, .int .u16 y2, .int .u16 y3, .int .i16 p0, .int .i16 p1, .int .i16 p2, .int .i16 p3, .int .i16 p4, .int .i16 p5, .int .i16 p6, .int .i16 p7, .int .i32 r0, .int .i32 r1, .int .i32 r2, .int .i32 r3, .int .u16 m, .slice vA vn vc, .slice qA qn qc, .slice oA on oc, .int .u32 sd, .slice A N cc] = (lookL (scOf c b0 b1 b2 b3 x0 x1 x2 x3 y0 y1 y2 y3 p0 p1 p2 p3 p4 p5 p6 p7 r0 r1 r2 r3 m vA vn vc vf qA qn qc qf oA on oc of) sd A N cc).toArray := rfl
  rw [EC]
  clear EC K hc hb0 hb1 hb2 hb3 hx0 hx1 hx2 hx3 hy0 hy1 hy2 hy3 hp0 hp1 hp2 hp3 hp4 hp5 hp6 hp7 hr0 hr1 hr2 hr3 hm hvl hvm hve hvb hql hqm hqe hqb hol hom hoe hob hsd hNc hcm hel hin
  generalize scOf c b0 b1 b2 b3 x0 x1 x2 x3 y0 y1 y2 y3 p0 p1 p2 p3 p4 p5 p6 p7 r0 r1 r2 r3 m vA vn vc vf qA qn qc qf oA on oc of = s at *
  generalize (⟨f0, f1, f2, f3, f4, f5⟩ : Pd) = d at *
  clear hbz
  have hb0 : Below w.heap.size w (w.alloc (.cells (lookL s sd A N cc).toArray 35)) := (Below.refl _ _).alloc (Nat.le_refl _) _
  have A0 := alloc_new w (.cells (lookL s sd A N cc).toArray 35)
  have LK0 := Lib.hid (LK.later hb0)
  have LS := look_len s sd A N cc
  clear LK
  obtain ⟨m0, m1⟩ := tm200 bz
  obtain ⟨bv1, hbv⟩ : ∃ b, Int.tmod bz 200 % 200 = b := ⟨_, rfl⟩
  rw [hbv] at m0 m1
  obtain ⟨m2, m3⟩ := tmb200 bz
  go_enter Try.func5, Try.ntmps5
  go_wp2_with fail
  generalize w.alloc (.cells (lookL s sd A N cc).toArray 35) = w0 at *
  refine (awake_any _).mono ?_
  rintro e w1 ⟨rfl, hb1⟩
  have A1 := Lib.hid (keep hb1 A0)
  have LK1 := Lib.hid (LK0.out.later hb1)
  have HB1 := Lib.hid (below_then hb0 hb1 hb0.size)
  have LSH := Lib.hid LS
  clear A0 LK0 hb0 hb1 LS
  go_wp2_with (refine wpList_load_row rfl 35 (.tmp 2) rfl w.heap.size rfl 35 _ (0, 0) _ A1.out Try.underlying35 rfl (by rw [LSH.out]; exact info_look) ?_)
  refine (look_filled cc LK1.out).mono ?_
  rintro e w2 ⟨sb, bv, bq, bo, rfl, F⟩
  have KK := LK1.out.k
  have KV := Lib.hid (patN_bd LK1.out.hs LK1.out.hb N (Nat.le_refl _))
  have F0 := Lib.hid F
  generalize hfv : memV sd d N 0 = fv at *
  generalize hfq : memV sd d N 1 = fq at *
  generalize hfo : memV sd d N 2 = fo at *
  have kv : ∀ i, 0 ≤ fv i ∧ fv i < 256 := fun i => by rw [← hfv]; exact KV.out 0 i
  have kq : ∀ i, 0 ≤ fq i ∧ fq i < 256 := fun i => by rw [← hfq]; exact KV.out 1 i
  have ko : ∀ i, 0 ≤ fo i ∧ fo i < 256 := fun i => by rw [← hfo]; exact KV.out 2 i
  obtain ⟨c1, dd, hc1, hdd, d0, d1, d8, d7, dc⟩ := ctl_moves KK.c0 KK.c1
  obtain ⟨b0, b1⟩ := KK.b 0 (by decide)
  obtain ⟨b2, hb2, e0, e1, e2⟩ := andNot64 b0 b1
  obtain ⟨x0, x1⟩ := KK.x 0 (by decide)
  have KS := Lib.hid (with_ok (movesS_ok KK d0 d1 e0 e1) kv kq ko bv bq bo)
  have KT := Lib.hid (with_ok (movesT_ok KK d0 d1 e0 e1 (show 0 ≤ (s.xs 0 + bv1) % 65536 by omega) (by omega)) kv kq ko bv bq bo)
  have ML : Hid (∀ n m : Nat, (m : Int) = n + bv1 → lineV (withMem (movesT s dd b2 ((s.xs 0 + bv1) % 65536)) bv bq bo fv fq fo) 0 7 n = lineV (withMem (movesS s dd b2) bv bq bo fv fq fo) 0 7 m) :=
    Lib.hid fun n m h => moves_line (s := withMem s bv bq bo fv fq fo) d8 d7 dc e2 rfl h
  have BW : Hid (∀ {W s'}, Fil w1 (lookL s sd A N cc) sb bv bq bo s' fv fq fo W → Below w.heap.size w W) := Lib.hid fun h => below_then HB1.out h.be HB1.out.size
  have C0 : w2.cell? ⟨sb, 0, none⟩ = some (.int .u16 s.ctl) := cellsAt F.at_ 0
  have C1 : w2.cell? ⟨sb, 1, none⟩ = some (.int .u16 (s.bg 0)) := cellsAt F.at_ 1
  have L2 := sizeAt F.at_
  have FR := freeAt F.at_
  have F3 : Hid (Fil w1 (lookL s sd A N cc) sb bv bq bo (movesS s dd b2) fv fq fo (((w2.setCell ⟨sb, 0, none⟩ (.int .u16 dd)).setCell ⟨sb, 1, none⟩ (.int .u16 b2)).drew)) :=
    Lib.hid ((Hl.Fil.set (k := 1) (v := .int .u16 b2) (s' := movesS s dd b2) (Hl.Fil.set (k := 0) (v := .int .u16 dd) (s' := { s with ctl := dd }) F0.out rfl) rfl).drewN 1)
  clear hfv hfq hfo kv kq ko KV A1 LK1 HB1 F d8 d7 dc e2
  have CX := KK
  clear KK CX
  generalize hbb : s.bg 0 = bb at *
  generalize hcc : s.ctl = ct at *
  generalize hxx : s.xs 0 = X at *
  have HBB := Lib.hid hbb
  have HCC := Lib.hid hcc
  have HXX := Lib.hid hxx
  clear hbb hcc hxx
  go_wp2_with fail
  go_region
  generalize ((w2.setCell ⟨sb, 0, none⟩ (.int .u16 dd)).setCell ⟨sb, 1, none⟩ (.int .u16 b2)).drew = w3 at *
  clear C0 C1 L2 FR F0 hc1 hdd hb2
  go_wp2_with fail
  refine (draw_any (Hl.Fil.sn F3.out) KS.out 0 7).mono ?_
  rintro e w4 ⟨rfl, hb4⟩
  have F4 := Hl.Fil.later F3.out hb4
  have F5 : Hid (Fil w1 (lookL s sd A N cc) sb bv bq bo (movesS s dd b2) fv fq fo (w4.alloc (lineO (lineV (withMem (movesS s dd b2) bv bq bo fv fq fo) 0 7) 42))) := Lib.hid (F4.alloc _)
  have A4 := alloc_new w4 (lineO (lineV (withMem (movesS s dd b2) bv bq bo fv fq fo) 0 7) 42)
  have lab : sb ≠ w4.heap.size := by have := sizeAt F4.at_; omega
  clear hb4 F4 F3
  generalize lineV (withMem (movesS s dd b2) bv bq bo fv fq fo) 0 7 = G at *
  unfold lineVal
  have ZL := zeroLine
  go_upto_region 8 with (refine wpList_store_row rfl 42 (.tmp 6) (.tmp 36) rfl w4.heap.size _ rfl rfl 42 _ (alloc_new _ _) (info_lineC _) (by rw [line_size, line_size]) (line_one _) ?_; rw [alloc_setRow])
  clear ZL
  generalize w4.alloc (lineO G 42) = w5 at *
  generalize w4.heap.size = la at *
  have C5 : w5.cell? ⟨sb, 5, none⟩ = some (.int .u16 X) := by rw [← HXX.out]; exact cellsAt F5.out.at_ 5
  have FR := freeAt F5.out.at_ 5
  have L5 := sizeAt F5.out.at_
  have A5H := Lib.hid A4
  have u1 : IntKind.u16.wrap bv1 = bv1 := by rw [wrap_u16]; omega
  have u2 : IntKind.u16.wrap (X + bv1) = (X + bv1) % 65536 := wrap_u16 _
  obtain ⟨xn, hxn⟩ : ∃ xn, (X + bv1) % 65536 = xn := ⟨_, rfl⟩
  rw [hxn] at u2
  rw [hxn] at ML KT
  have F6 : Hid (Fil w1 (lookL s sd A N cc) sb bv bq bo (movesT s dd b2 xn) fv fq fo ((w5.setCell ⟨sb, 5, none⟩ (.int .u16 xn)).drew)) :=
    Lib.hid ((Hl.Fil.set (k := 5) (v := .int .u16 xn) (s' := movesT s dd b2 xn) F5.out rfl).drewN 1)
  have A6 : Hid ((w5.setCell ⟨sb, 5, none⟩ (.int .u16 xn)).drew.heap[la]? = some (lineO G 42)) := Lib.hid (drew_heap (set_ne _ (Ne.symm lab) A4))
  have HXN := Lib.hid hxn
  clear hxn A4
  go_wp2_with fail
  go_region
  generalize (w5.setCell ⟨sb, 5, none⟩ (.int .u16 xn)).drew = w6 at *
  clear C5 FR L5 F5 u1 u2
  go_wp2_with fail
  refine (draw_any (Hl.Fil.sn F6.out) KT.out 0 7).mono ?_
  rintro e w7 ⟨rfl, hb7⟩
  have A7 : Hid ((w7.alloc (lineO (lineV (withMem (movesT s dd b2 xn) bv bq bo fv fq fo) 0 7) 42)).heap[la]? = some (lineO G 42)) := Lib.hid (alloc_old _ (keep hb7 A6.out))
  have B7 := Lib.hid (alloc_new w7 (lineO (lineV (withMem (movesT s dd b2 xn) bv bq bo fv fq fo) 0 7) 42))
  have HB7 : Hid (Below w.heap.size w (w7.alloc (lineO (lineV (withMem (movesT s dd b2 xn) bv bq bo fv fq fo) 0 7) 42))) := Lib.hid (BW.out ((Hl.Fil.later F6.out hb7).alloc _))
  clear hb7 F6 A6 A5H
  generalize lineV (withMem (movesT s dd b2 xn) bv bq bo fv fq fo) 0 7 = H at *
  unfold lineVal
  have ZL := zeroLine
  go_upto_region 10 with (refine wpList_store_row rfl 42 (.tmp 7) (.tmp 49) rfl w7.heap.size _ rfl rfl 42 _ (alloc_new _ _) (info_lineC _) (by rw [line_size, line_size]) (line_one _) ?_; rw [alloc_setRow])
  clear ZL
  generalize w7.alloc (lineO H 42) = w8 at *
  generalize w7.heap.size = lb at *
  go_wp2_with fail
  go_loopw [8] (fun iv wr => ∃ (n q : Nat), iv = .int .i64 n ∧ (n : Int) ≤ 240 - bv1 ∧ wr = w8.drewN q) (fun iv _ => 240 - (intOf iv).toNat)
  case atStart => exact ⟨0, 0, rfl, by omega, rfl⟩
  case round =>
    obtain ⟨n, q, rfl, hn, rfl⟩ := hrel
    by_cases hlt : (n : Int) < 240 - bv1
    · have tt : decide ((n : Int) < 240 - bv1) = true := decide_eq_true hlt
      obtain ⟨m, hm⟩ := Int.eq_ofNat_of_zero_le (show 0 ≤ (n : Int) + bv1 by omega)
      have n0 : (0 : Int) ≤ (n : Int) := by omega
      have n1 : (n : Int) < 240 := by omega
      have n2 : (m : Int) < 240 := by omega
      have n3 : (0 : Int) ≤ (m : Int) := by omega
      have EQ := ML.out n m hm.symm
      have CA : (w8.drewN q).cell? ⟨la, m, none⟩ = some (.int .u16 (G m)) := by
        have := cellsAt A7.out m
        rw [line_at G (by omega)] at this
        exact this
      have CB : (w8.drewN q).cell? ⟨lb, n, none⟩ = some (.int .u16 (G m)) := by
        have := cellsAt B7.out n
        rw [line_at H (by omega), EQ] at this
        exact this
      have LA : la < (w8.drewN q).heap.size := sizeAt A7.out
      have LB : lb < (w8.drewN q).heap.size := sizeAt B7.out
      have wm : IntKind.i64.wrap ((n : Int) + bv1) = (m : Int) := by rw [hm]; exact i64_in (by omega) (by omega)
      have HM := Lib.hid hm
      have HW : Hid (∀ m, ∃ q', (w8.drewN q).drewN m = w8.drewN q') := Lib.hid fun m => ⟨_, World.drewN_drewN _ _ _⟩
      clear EQ hm
      generalize w8.drewN q = w9 at *
      go_wp2_with fail
      go_quiet (fail)
      clear wm
      go_wp2_with fail
      obtain ⟨q', hq'⟩ := HW.out nq
      exact ⟨⟨n + 1, q', by go_num, by omega, hq'⟩, by simp [intOf]; omega⟩
    · have tt : decide ((n : Int) < 240 - bv1) = false := decide_eq_false hlt
      have HB9 := Lib.hid (below_dn HB7.out q)
      clear hlt
      generalize w8.drewN q = w9 at *
      go_wp2_with fail
      go_ret
      exact ⟨rfl, HB9.out⟩
end Go.Proofs.Ytbljlnhgllbbdaa.Hx
