/- BgDraws, walked. -/
import Derived.Test.YtbljlnhgllbbdaaHw
import Derived.Test.YtbljlnhgllbbdaaHl
import Derived.Test.YtbljlnhgllbbdaaHr
import Derived.Test.YtbljlnhgllbbdaaHe
namespace Go.Proofs.Ytbljlnhgllbbdaa.Hu
set_option linter.unusedVariables false
set_option linter.unusedSimpArgs false
open Go.RowKit Go.Proofs.Ytbljlnhgllbbdaa.Bt Go.Proofs.Ytbljlnhgllbbdaa.Wk Go.Proofs.Ytbljlnhgllbbdaa.Sg Go.Proofs.Ytbljlnhgllbbdaa.Gp Go.Proofs.Ytbljlnhgllbbdaa.Gm Go.Proofs.Ytbljlnhgllbbdaa.Gs Go.Proofs.Ytbljlnhgllbbdaa.Gh Go.Proofs.Ytbljlnhgllbbdaa.Gx Go.Proofs.Ytbljlnhgllbbdaa.Gz Go.Proofs.Ytbljlnhgllbbdaa.Ha Go.Proofs.Ytbljlnhgllbbdaa.Hb Go.Proofs.Ytbljlnhgllbbdaa.He Go.Proofs.Ytbljlnhgllbbdaa.Hr Go.Proofs.Ytbljlnhgllbbdaa.Hw Go.Proofs.Ytbljlnhgllbbdaa.Hs Go.Proofs.Ytbljlnhgllbbdaa.Hf Go.Proofs.Ytbljlnhgllbbdaa.Hl

theorem wf_u32 {n : Int} (h : (Lit.int .u32 n).wf = true) : 0 ≤ n ∧ n < 4294967296 := by simp [Lit.wf] at h; have a : IntKind.u32.min = 0 := rfl; have b : IntKind.u32.max = 4294967295 := rfl; omega
theorem wf_i64 {n : Int} (h : (Lit.int .i64 n).wf = true) : -9223372036854775808 ≤ n ∧ n ≤ 9223372036854775807 := by simp [Lit.wf] at h; have a : IntKind.i64.min = -9223372036854775808 := rfl; have b : IntKind.i64.max = 9223372036854775807 := rfl; omega
theorem look_ok {w : World} {s : Sc} {sd : Int} {A : Option Addr} {N cc : Nat} {f0 f1 : Nat → Int} {f2 : Nat → Option Addr} {f3 f4 : Nat → Nat} {f5 : Nat → Nat → Int} (k : Sok s) (hsd : (Lit.int .u32 sd).wf = true) (hNc : N ≤ cc) (hcm : cc ≤ maxLen)
    (hel : Elts w A N 3 (fun i => [.int .i64 (f0 i), .int .i64 (f1 i), .slice (f2 i) (f3 i) (f4 i)])) (hin : ∀ i, i < N → (Lit.int .i64 (f0 i)).wf = true ∧ (Lit.int .i64 (f1 i)).wf = true ∧ f3 i ≤ f4 i ∧ f4 i ≤ maxLen ∧ Elts w (f2 i) (f3 i) 1 (fun j => [.int .u8 (f5 i j)]) ∧ (∀ j, j < f3 i → (Lit.int .u8 (f5 i j)).wf = true ∧ True) ∧ True) :
    Lok w s sd A N ⟨f0, f1, f2, f3, f4, f5⟩ :=
  ⟨k, wf_u32 hsd, Nat.le_trans hNc hcm, hel, fun i hi => ⟨wf_i64 (hin i hi).2.1, Nat.le_trans (hin i hi).2.2.1 (hin i hi).2.2.2.1, (hin i hi).2.2.2.2.1⟩, fun i hi j hj => wf_u8 ((hin i hi).2.2.2.2.2.1 j hj).1⟩
theorem look_len (s : Sc) (sd : Int) (A : Option Addr) (N cc : Nat) : (lookL s sd A N cc).toArray.size = 31 := by simp [lookL, sc_len]
theorem info_look : (Try.prog.info? 35).map (·.size) = some 31 := by kernel_rfl
theorem shown_all {w : World} {b : Nat} {T : TypeId} {s : Sc} (h : Sn w b T s) (k : Sok s) (i : Int) : Calls Try.prog 13 #[.pointer (some ⟨b, 0, none⟩), .int .i64 i] w fun e w' => e = .returned (.bool (shownV s i)) ∧ w = w' := by
  by_cases g : 0 ≤ i ∧ i < 4
  · exact shown_in h k g.1 g.2
  · have e : shownV s i = false := by unfold shownV; rw [decide_eq_false g]; rfl
    rw [e]
    exact shown_out i (by omega)
set_option maxRecDepth 100000 in
set_option maxHeartbeats 8000000 in
theorem draws_law (c b0 b1 b2 b3 x0 x1 x2 x3 y0 y1 y2 y3 p0 p1 p2 p3 p4 p5 p6 p7 r0 r1 r2 r3 m : Int) (vA : Option Addr) (vn vc : Nat) (vf : Nat → Int) (qA : Option Addr) (qn qc : Nat) (qf : Nat → Int) (oA : Option Addr) (on oc : Nat) (of : Nat → Int) (sd : Int) (A : Option Addr) (N cc : Nat) (f0 f1 : Nat → Int) (f2 : Nat → Option Addr) (f3 f4 : Nat → Nat) (f5 : Nat → Nat → Int) (i line : Int) (w : World) (hc : (Lit.int .u16 c).wf = true) (hb0 : (Lit.int .u16 b0).wf = true) (hb1 : (Lit.int .u16 b1).wf = true) (hb2 : (Lit.int .u16 b2).wf = true) (hb3 : (Lit.int .u16 b3).wf = true) (hx0 : (Lit.int .u16 x0).wf = true) (hx1 : (Lit.int .u16 x1).wf = true) (hx2 : (Lit.int .u16 x2).wf = true) (hx3 : (Lit.int .u16 x3).wf = true) (hy0 : (Lit.int .u16 y0).wf = true) (hy1 : (Lit.int .u16 y1).wf = true) (hy2 : (Lit.int .u16 y2).wf = true) (hy3 : (Lit.int .u16 y3).wf = true) (hp0 : (Lit.int .i16 p0).wf = true) (hp1 : (Lit.int .i16 p1).wf = true) (hp2 : (Lit.int .i16 p2).wf = true) (hp3 : (Lit.int .i16 p3).wf = true) (hp4 : (Lit.int .i16 p4).wf = true) (hp5 : (Lit.int .i16 p5).wf = true) (hp6 : (Lit.int .i16 p6).wf = true) (hp7 : (Lit.int .i16 p7).wf = true) (hr0 : (Lit.int .i32 r0).wf = true) (hr1 : (Lit.int .i32 r1).wf = true) (hr2 : (Lit.int .i32 r2).wf = true) (hr3 : (Lit.int .i32 r3).wf = true) (hm : (Lit.int .u16 m).wf = true) (hvl : vn ≤ vc) (hvm : vc ≤ maxLen) (hve : Elts w vA vn 1 (fun i => [.int .u8 (vf i)])) (hvb : ∀ i, i < vn → (Lit.int .u8 (vf i)).wf = true ∧ True) (hql : qn ≤ qc) (hqm : qc ≤ maxLen) (hqe : Elts w qA qn 1 (fun i => [.int .u8 (qf i)])) (hqb : ∀ i, i < qn → (Lit.int .u8 (qf i)).wf = true ∧ True) (hol : on ≤ oc) (hom : oc ≤ maxLen) (hoe : Elts w oA on 1 (fun i => [.int .u8 (of i)])) (hob : ∀ i, i < on → (Lit.int .u8 (of i)).wf = true ∧ True) (hsd : (Lit.int .u32 sd).wf = true) (hNc : N ≤ cc) (hcm : cc ≤ maxLen) (hel : Elts w A N 3 (fun i => [.int .i64 (f0 i), .int .i64 (f1 i), .slice (f2 i) (f3 i) (f4 i)])) (hin : ∀ i, i < N → (Lit.int .i64 (f0 i)).wf = true ∧ (Lit.int .i64 (f1 i)).wf = true ∧ f3 i ≤ f4 i ∧ f4 i ≤ maxLen ∧ Elts w (f2 i) (f3 i) 1 (fun j => [.int .u8 (f5 i j)]) ∧ (∀ j, j < f3 i → (Lit.int .u8 (f5 i j)).wf = true ∧ True) ∧ True) (hi : (Lit.int .i64 i).wf = true) (hline : (Lit.int .i64 line).wf = true) :
    Calls Try.prog 3 #[.agg #[.int .u16 c, .int .u16 b0, .int .u16 b1, .int .u16 b2, .int .u16 b3, .int .u16 x0, .int .u16 x1, .int .u16 x2, .int .u16 x3, .int .u16 y0, .int .u16 y1, .int .u16 y2, .int .u16 y3, .int .i16 p0, .int .i16 p1, .int .i16 p2, .int .i16 p3, .int .i16 p4, .int .i16 p5, .int .i16 p6, .int .i16 p7, .int .i32 r0, .int .i32 r1, .int .i32 r2, .int .i32 r3, .int .u16 m, .slice vA vn vc, .slice qA qn qc, .slice oA on oc, .int .u32 sd, .slice A N cc], .int .i64 i, .int .i64 line] w fun e w' => e = .returned (.bool true) ∧ Below w.heap.size w w' := by
  have K := sc_ok (w := w) hc hb0 hb1 hb2 hb3 hx0 hx1 hx2 hx3 hy0 hy1 hy2 hy3 hp0 hp1 hp2 hp3 hp4 hp5 hp6 hp7 hr0 hr1 hr2 hr3 hm hvl hvm hve hvb hql hqm hqe hqb hol hom hoe hob
  have LK : Lok w (scOf c b0 b1 b2 b3 x0 x1 x2 x3 y0 y1 y2 y3 p0 p1 p2 p3 p4 p5 p6 p7 r0 r1 r2 r3 m vA vn vc vf qA qn qc qf oA on oc of) sd A N ⟨f0, f1, f2, f3, f4, f5⟩ := look_ok K hsd hNc hcm hel hin
  have EC : #[.int .u16 c, .int .u16 b0, .int .u16 b1, .int .u16 b2, .int .u16 b3, .int .u16 x0, .int .u16 x1, .int .u16 x2, .int .u16 x3, .int .u16 y0, .int .u16 y1, .int .u16 y2, .int .u16 y3, .int .i16 p0, .int .i16 p1, .int .i16 p2, .int .i16 p3, .int .i16 p4, .int .i16 p5, .int .i16 p6, .int .i16 p7, .int .i32 r0, .int .i32 r1, .int .i32 r2, .int .i32 r3, .int .u16 m, .slice vA vn vc, .slice qA qn qc, .slice oA on oc, .int .u32 sd, .slice A N cc] = (lookL (scOf c b0 b1 b2 b3 x0 x1 x2 x3 y0 y1 y2 y3 p0 p1 p2 p3 p4 p5 p6 p7 r0 r1 r2 r3 m vA vn vc vf qA qn qc qf oA on oc of) sd A N cc).toArray := rfl
  rw [EC]
  clear EC K hc hb0 hb1 hb2 hb3 hx0 hx1 hx2 hx3 hy0 hy1 hy2 hy3 hp0 hp1 hp2 hp3 hp4 hp5 hp6 hp7 hr0 hr1 hr2 hr3 hm hvl hvm hve hvb hql hqm hqe hqb hol hom hoe hob hsd hNc hcm hel hin
  generalize scOf c b0 b1 b2 b3 x0 x1 x2 x3 y0 y1 y2 y3 p0 p1 p2 p3 p4 p5 p6 p7 r0 r1 r2 r3 m vA vn vc vf qA qn qc qf oA on oc of = s at *
  generalize (⟨f0, f1, f2, f3, f4, f5⟩ : Pd) = d at *
  clear hi hline
  have hb0 : Below w.heap.size w (w.alloc (.cells (lookL s sd A N cc).toArray 35)) := (Below.refl _ _).alloc (Nat.le_refl _) _
  have A0 := alloc_new w (.cells (lookL s sd A N cc).toArray 35)
  have LK0 := Lib.hid (LK.later hb0)
  have LS := look_len s sd A N cc
  clear LK
  go_enter Try.func3, Try.ntmps3
  go_wp2_with fail
  generalize w.alloc (.cells (lookL s sd A N cc).toArray 35) = w0 at *
  refine (awake_any _).mono ?_
  rintro e w1 ⟨rfl, hb1⟩
  have A1 := Lib.hid (keep hb1 A0)
  have LK1 := Lib.hid (LK0.out.later hb1)
  have HB1 := Lib.hid (below_then hb0 hb1 hb0.size)
  have LSH := Lib.hid LS
  clear A0 LK0 hb0 hb1 LS
  go_wp2_with (refine wpList_load_row rfl 35 (.tmp 3) rfl w.heap.size rfl 35 _ (0, 0) _ A1.out Try.underlying35 rfl (by rw [LSH.out]; exact info_look) ?_)
  refine (look_filled cc LK1.out).mono ?_
  rintro e w2 ⟨sb, bv, bq, bo, rfl, F⟩
  have S1 : Sn w2 sb 31 (fillS s sd d N bv bq bo) := Hl.Fil.sn F
  have K := Lib.hid (fill_ok LK1.out bv bq bo)
  have HB2 : Hid (Below w.heap.size w w2) := Lib.hid (below_then HB1.out F.be HB1.out.size)
  generalize fillS s sd d N bv bq bo = z at *
  have SH1 := Lib.hid S1
  clear S1 F A1 LK1 HB1
  go_wp2_with fail
  refine (ref_any SH1.out).mono ?_
  rintro e w3 ⟨q, rfl, rfl⟩
  have S2 : Hid (Sn ((w2.drewN q).alloc (.cells (cellsS z).toArray 54)) sb 31 z) := Lib.hid ((SH1.out.drewN q).later ((Below.refl _ _).alloc (Nat.le_refl _) _))
  have S3 : Hid (Sn ((w2.drewN q).alloc (.cells (cellsS z).toArray 54)) w2.heap.size 54 z) := Lib.hid ⟨alloc_new (w2.drewN q) _, S2.out.vr, S2.out.pa, S2.out.oa⟩
  have HB3 : Hid (Below w.heap.size w ((w2.drewN q).alloc (.cells (cellsS z).toArray 54))) := Lib.hid ((below_dn HB2.out q).alloc HB2.out.size _)
  generalize (w2.drewN q).alloc (.cells (cellsS z).toArray 54) = w3 at *
  clear SH1 HB2
  go_wp2_with fail
  refine (draw_any S2.out K.out i line).mono ?_
  rintro e w4 ⟨rfl, hb4⟩
  have S4 : Hid (Sn (w4.alloc (lineO (lineV z i line) 42)) w2.heap.size 54 z) := Lib.hid ((S3.out.later hb4).later ((Below.refl _ _).alloc (Nat.le_refl _) _))
  have S5 : Hid (Sn (w4.alloc (lineO (lineV z i line) 42)) sb 31 z) := Lib.hid ((S2.out.later hb4).later ((Below.refl _ _).alloc (Nat.le_refl _) _))
  have HB4 : Hid (Below w.heap.size w (w4.alloc (lineO (lineV z i line) 42))) := Lib.hid ((below_then HB3.out hb4 HB3.out.size).alloc (below_then HB3.out hb4 HB3.out.size).size _)
  have A4 := Lib.hid (alloc_new w4 (lineO (lineV z i line) 42))
  clear hb4 S2 S3 HB3
  generalize hF : lineV z i line = F at *
  have HF := Lib.hid hF
  clear hF
  unfold lineVal
  have ZL := zeroLine
  go_upto_block 0 with (refine wpList_store_row rfl 42 (.tmp 9) (.tmp 20) rfl w4.heap.size _ rfl rfl 42 _ (alloc_new _ _) (info_lineC _) (by rw [line_size, line_size]) (line_one _) ?_; rw [alloc_setRow])
  clear ZL
  generalize w4.alloc (lineO F 42) = w5 at *
  generalize w4.heap.size = lb at *
  go_wp2_with fail
  go_loopw [21] (fun iv wr => ∃ (n q : Nat), iv = .int .i64 n ∧ n ≤ 240 ∧ wr = w5.drewN q) (fun iv _ => 240 - (intOf iv).toNat)
  case atStart => exact ⟨0, 0, rfl, by omega, rfl⟩
  case round =>
    obtain ⟨n, q, rfl, hn, rfl⟩ := hrel
    by_cases hlt : n < 240
    · have tt : decide ((n : Int) < 240) = true := by simp; omega
      have n0 : (0 : Int) ≤ (n : Int) := by omega
      have n1 : (n : Int) < 240 := by omega
      have CC : (w5.drewN q).cell? ⟨lb, n, none⟩ = some (.int .u16 (F n)) := by
        have := cellsAt A4.out n
        rw [line_at F hlt] at this
        exact this
      have LL : lb < (w5.drewN q).heap.size := sizeAt A4.out
      have DD := Lib.hid (fun m => rdot_any ((S4.out.drewN q).drewN m) K.out i n hlt line)
      rw [HF.out] at DD
      have HW : Hid (∀ m, ∃ q', (w5.drewN q).drewN m = w5.drewN q') := Lib.hid fun m => ⟨_, World.drewN_drewN _ _ _⟩
      generalize w5.drewN q = w6 at *
      go_wp2_with fail
      go_quiet ((go_at_call 12; exact Calls.quiet_of (DD.out _)))
      go_wp2_with fail
      obtain ⟨q', hq'⟩ := HW.out nq
      exact ⟨⟨n + 1, q', by go_num, by omega, hq'⟩, by simp [intOf]; omega⟩
    · have nn : n = 240 := by omega
      have tt : decide ((n : Int) < 240) = false := by simp; omega
      have HB5 := Lib.hid (fun m => below_dn (below_dn HB4.out q) m)
      have D1 := Lib.hid (fun m => shown_all ((S5.out.drewN q).drewN m) K.out i)
      have D0 := Lib.hid (shown_all (S5.out.drewN q) K.out i)
      have E1 := Lib.hid (fun m => rshown_any ((S4.out.drewN q).drewN m) K.out i)
      have E0 := Lib.hid (rshown_any (S4.out.drewN q) K.out i)
      have M1 := Lib.hid (fun m => mode_any ((S5.out.drewN q).drewN m) K.out)
      have O1 := Lib.hid (fun m => rmode_any ((S4.out.drewN q).drewN m) K.out)
      clear hlt nn S4 S5
      generalize shownV z i = sv at *
      generalize modeV z = mv at *
      generalize w5.drewN q = w6 at *
      go_wp2_with (first | (go_at_call 13; ((with_reducible refine (D0.out).mono ?_); rintro e w' ⟨rfl, rfl⟩)) | (go_at_call 14; ((with_reducible refine (E0.out).mono ?_); rintro e w' ⟨rfl, q, rfl⟩)) | (go_at_call 15; ((with_reducible refine (M1.out _).mono ?_); rintro e w' ⟨rfl, rfl⟩)) | (go_at_call 16; ((with_reducible refine (O1.out _).mono ?_); rintro e w' ⟨rfl, q, rfl⟩)))
      go_ret
      exact ⟨rfl, HB5.out _⟩
end Go.Proofs.Ytbljlnhgllbbdaa.Hu
