/- BgShort, walked. -/
import Derived.Test.YtbljlnhgllbbdaaHw
import Derived.Test.YtbljlnhgllbbdaaHs
import Derived.Test.YtbljlnhgllbbdaaHr
import Derived.Test.YtbljlnhgllbbdaaHe
namespace Go.Proofs.Ytbljlnhgllbbdaa.Ht
set_option linter.unusedVariables false
set_option linter.unusedSimpArgs false
open Go.RowKit Go.Proofs.Ytbljlnhgllbbdaa.Bt Go.Proofs.Ytbljlnhgllbbdaa.Wk Go.Proofs.Ytbljlnhgllbbdaa.Sg Go.Proofs.Ytbljlnhgllbbdaa.Gp Go.Proofs.Ytbljlnhgllbbdaa.Gm Go.Proofs.Ytbljlnhgllbbdaa.Gx Go.Proofs.Ytbljlnhgllbbdaa.Gz Go.Proofs.Ytbljlnhgllbbdaa.He Go.Proofs.Ytbljlnhgllbbdaa.Hr Go.Proofs.Ytbljlnhgllbbdaa.Hw Go.Proofs.Ytbljlnhgllbbdaa.Hs

theorem elts_any {w : World} {A : Option Addr} {n c : Nat} {f : Nat → Int} (h : Elts w A n 1 (fun i => [.int .u8 (f i)])) : Rd w ⟨A, n, c, f⟩ := h
set_option maxRecDepth 100000 in
set_option maxHeartbeats 8000000 in
theorem short_law (c b0 b1 b2 b3 x0 x1 x2 x3 y0 y1 y2 y3 p0 p1 p2 p3 p4 p5 p6 p7 r0 r1 r2 r3 m : Int) (vA : Option Addr) (vn vc : Nat) (vf : Nat → Int) (qA : Option Addr) (qn qc : Nat) (qf : Nat → Int) (oA : Option Addr) (on oc : Nat) (of : Nat → Int) (i line : Int) (w : World) (hc : (Lit.int .u16 c).wf = true) (hb0 : (Lit.int .u16 b0).wf = true) (hb1 : (Lit.int .u16 b1).wf = true) (hb2 : (Lit.int .u16 b2).wf = true) (hb3 : (Lit.int .u16 b3).wf = true) (hx0 : (Lit.int .u16 x0).wf = true) (hx1 : (Lit.int .u16 x1).wf = true) (hx2 : (Lit.int .u16 x2).wf = true) (hx3 : (Lit.int .u16 x3).wf = true) (hy0 : (Lit.int .u16 y0).wf = true) (hy1 : (Lit.int .u16 y1).wf = true) (hy2 : (Lit.int .u16 y2).wf = true) (hy3 : (Lit.int .u16 y3).wf = true) (hp0 : (Lit.int .i16 p0).wf = true) (hp1 : (Lit.int .i16 p1).wf = true) (hp2 : (Lit.int .i16 p2).wf = true) (hp3 : (Lit.int .i16 p3).wf = true) (hp4 : (Lit.int .i16 p4).wf = true) (hp5 : (Lit.int .i16 p5).wf = true) (hp6 : (Lit.int .i16 p6).wf = true) (hp7 : (Lit.int .i16 p7).wf = true) (hr0 : (Lit.int .i32 r0).wf = true) (hr1 : (Lit.int .i32 r1).wf = true) (hr2 : (Lit.int .i32 r2).wf = true) (hr3 : (Lit.int .i32 r3).wf = true) (hm : (Lit.int .u16 m).wf = true) (hvl : vn ≤ vc) (hvm : vc ≤ maxLen) (hve : Elts w vA vn 1 (fun i => [.int .u8 (vf i)])) (hvb : ∀ i, i < vn → (Lit.int .u8 (vf i)).wf = true ∧ True) (hql : qn ≤ qc) (hqm : qc ≤ maxLen) (hqe : Elts w qA qn 1 (fun i => [.int .u8 (qf i)])) (hqb : ∀ i, i < qn → (Lit.int .u8 (qf i)).wf = true ∧ True) (hol : on ≤ oc) (hom : oc ≤ maxLen) (hoe : Elts w oA on 1 (fun i => [.int .u8 (of i)])) (hob : ∀ i, i < on → (Lit.int .u8 (of i)).wf = true ∧ True) (hi : (Lit.int .i64 i).wf = true) (hline : (Lit.int .i64 line).wf = true) :
    Calls Try.prog 4 #[.agg #[.int .u16 c, .int .u16 b0, .int .u16 b1, .int .u16 b2, .int .u16 b3, .int .u16 x0, .int .u16 x1, .int .u16 x2, .int .u16 x3, .int .u16 y0, .int .u16 y1, .int .u16 y2, .int .u16 y3, .int .i16 p0, .int .i16 p1, .int .i16 p2, .int .i16 p3, .int .i16 p4, .int .i16 p5, .int .i16 p6, .int .i16 p7, .int .i32 r0, .int .i32 r1, .int .i32 r2, .int .i32 r3, .int .u16 m, .slice vA vn vc, .slice qA qn qc, .slice oA on oc], .int .i64 i, .int .i64 line] w fun e w' => e = .returned (.bool true) ∧ Below w.heap.size w w' := by
  have K := Lib.hid (sc_ok (w := w)  hc  hb0  hb1  hb2  hb3  hx0  hx1  hx2  hx3  hy0  hy1  hy2  hy3  hp0  hp1  hp2  hp3  hp4  hp5  hp6  hp7  hr0  hr1  hr2  hr3  hm  hvl  hvm  hve  hvb  hql  hqm  hqe  hqb  hol  hom  hoe  hob)
  have RV : Rd w ⟨vA, vn, vc, vf⟩ := hve
  have RP : Rd w ⟨qA, qn, qc, qf⟩ := hqe
  have RO : Rd w ⟨oA, on, oc, of⟩ := hoe
  have hvm' : vn ≤ maxLen := Nat.le_trans hvl hvm
  have hqm' : qn ≤ maxLen := Nat.le_trans hql hqm
  clear hc hb0 hb1 hb2 hb3 hx0 hx1 hx2 hx3 hy0 hy1 hy2 hy3 hp0 hp1 hp2 hp3 hp4 hp5 hp6 hp7 hr0 hr1 hr2 hr3 hm hvl hvm hve hvb hql hqm hqe hqb hol hom hoe hob hi hline
  rw [← sc_cells (vf := vf) (qf := qf) (of := of)]
  generalize hS : scOf c b0 b1 b2 b3 x0 x1 x2 x3 y0 y1 y2 y3 p0 p1 p2 p3 p4 p5 p6 p7 r0 r1 r2 r3 m vA vn vc vf qA qn qc qf oA on oc of = s at *
  have ev : s.vr.n = vn := by rw [← hS]; rfl
  have ep : s.pa.n = qn := by rw [← hS]; rfl
  have cv : svc s 26 = .slice vA vn vc := by rw [← hS]; rfl
  have cp : svc s 27 = .slice qA qn qc := by rw [← hS]; rfl
  have RV' : Rd w s.vr := by rw [← hS]; exact RV
  have RP' : Rd w s.pa := by rw [← hS]; exact RP
  have RO' : Rd w s.oa := by rw [← hS]; exact RO
  have S0 : Sn (w.alloc (.cells (cellsS s).toArray 31)) w.heap.size 31 s := by
    have hb : Below w.heap.size w (w.alloc (.cells (cellsS s).toArray 31)) := (Below.refl _ _).alloc (Nat.le_refl _) _
    exact ⟨alloc_new _ _, RV'.later hb, RP'.later hb, RO'.later hb⟩
  clear RV RP RO RV' RP' RO' hS
  have hb0 : Below w.heap.size w (w.alloc (.cells (cellsS s).toArray 31)) := (Below.refl _ _).alloc (Nat.le_refl _) _
  unfold maxLen at hvm' hqm'
  go_enter Try.func4, Try.ntmps4
  go_wp2_with fail
  generalize w.alloc (.cells (cellsS s).toArray 31) = w0 at *
  refine (awake_any _).mono ?_
  rintro e w1 ⟨rfl, hb1⟩
  have S1 := S0.later hb1
  have HB1 := Lib.hid (below_then hb0 hb1 hb0.size)
  clear S0 hb0 hb1
  have CV := S1.cell (k := 26) (by decide)
  have CP := S1.cell (k := 27) (by decide)
  rw [cv] at CV
  rw [cp] at CP
  have SH1 := Lib.hid S1
  have hvm2 : (vn : Int) ≤ 9223372036854775807 := by omega
  have hqm2 : (qn : Int) ≤ 9223372036854775807 := by omega
  clear S1 hvm' hqm' ev ep cv cp
  by_cases g : 200000 < vn ∨ 2000 < qn
  · have g' : (decide ((200000 : Int) < (vn : Int)) = true) ∨ (decide ((200000 : Int) < (vn : Int)) = false ∧ decide ((2000 : Int) < (qn : Int)) = true) := by
      simp only [decide_eq_true_eq, decide_eq_false_iff_not]; omega
    clear g
    rcases g' with u | ⟨u, u1⟩
    all_goals
      go_wp2
      go_ret
      exact ⟨rfl, HB1.out⟩
  · have u : decide ((200000 : Int) < (vn : Int)) = false := by simp; omega
    have u1 : decide ((2000 : Int) < (qn : Int)) = false := by simp; omega
    clear g
    go_wp2_with fail
    refine (ref_any SH1.out).mono ?_
    rintro e w2 ⟨q, rfl, rfl⟩
    have S2 : Hid (Sn ((w1.drewN q).alloc (.cells (cellsS s).toArray 54)) w.heap.size 31 s) := Lib.hid ((SH1.out.drewN q).later ((Below.refl _ _).alloc (Nat.le_refl _) _))
    have S3 : Hid (Sn ((w1.drewN q).alloc (.cells (cellsS s).toArray 54)) w1.heap.size 54 s) := Lib.hid ⟨alloc_new (w1.drewN q) _, S2.out.vr, S2.out.pa, S2.out.oa⟩
    have HB2 : Hid (Below w.heap.size w ((w1.drewN q).alloc (.cells (cellsS s).toArray 54))) := Lib.hid ((below_dn HB1.out q).alloc HB1.out.size _)
    generalize (w1.drewN q).alloc (.cells (cellsS s).toArray 54) = w2 at *
    clear CV CP
    go_wp2_with fail
    refine (draw_any S2.out K.out i line).mono ?_
    rintro e w3 ⟨rfl, hb3⟩
    have S4 : Hid (Sn (w3.alloc (lineO (lineV s i line) 42)) w1.heap.size 54 s) := Lib.hid ((S3.out.later hb3).later ((Below.refl _ _).alloc (Nat.le_refl _) _))
    have HB4 : Hid (Below w.heap.size w (w3.alloc (lineO (lineV s i line) 42))) := Lib.hid ((below_then HB2.out hb3 HB2.out.size).alloc (below_then HB2.out hb3 HB2.out.size).size _)
    have A4 := Lib.hid (alloc_new w3 (lineO (lineV s i line) 42))
    clear hb3 S2 S3
    generalize hF : lineV s i line = F at *
    have HF := Lib.hid hF
    clear hF
    unfold lineVal
    have ZL := zeroLine
    go_upto_block 0 with (refine wpList_store_row rfl 42 (.tmp 8) (.tmp 25) rfl w3.heap.size _ rfl rfl 42 _ (alloc_new _ _) (info_lineC _) (by rw [line_size, line_size]) (line_one _) ?_; rw [alloc_setRow])
    clear ZL
    generalize w3.alloc (lineO F 42) = w4 at *
    generalize w3.heap.size = lb at *
    go_wp2_with fail
    go_loopw [26] (fun iv wr => ∃ (n q : Nat), iv = .int .i64 n ∧ n ≤ 240 ∧ wr = w4.drewN q) (fun iv _ => 240 - (intOf iv).toNat)
    case atStart => exact ⟨0, 0, rfl, by omega, rfl⟩
    case round =>
      obtain ⟨n, q, rfl, hn, rfl⟩ := hrel
      by_cases hlt : n < 240
      · have tt : decide ((n : Int) < 240) = true := by simp; omega
        have n0 : (0 : Int) ≤ (n : Int) := by omega
        have n1 : (n : Int) < 240 := by omega
        have CC : (w4.drewN q).cell? ⟨lb, n, none⟩ = some (.int .u16 (F n)) := by
          have := cellsAt A4.out n
          rw [line_at F hlt] at this
          exact this
        have LL : lb < (w4.drewN q).heap.size := sizeAt A4.out
        have DD := Lib.hid (fun m => rdot_any ((S4.out.drewN q).drewN m) K.out i n hlt line)
        rw [HF.out] at DD
        have HB5 : Hid (∀ m, Below w.heap.size w ((w4.drewN q).drewN m)) := Lib.hid fun m => below_dn (below_dn HB4.out q) m
        have HW : Hid (∀ m, ∃ q', (w4.drewN q).drewN m = w4.drewN q') := Lib.hid fun m => ⟨_, World.drewN_drewN _ _ _⟩
        generalize w4.drewN q = w5 at *
        go_wp2_with fail
        go_quiet ((go_at_call 12; exact Calls.quiet_of (DD.out _)))
        go_wp2_with fail
        obtain ⟨q', hq'⟩ := HW.out nq
        exact ⟨⟨n + 1, q', by go_num, by omega, hq'⟩, by simp [intOf]; omega⟩
      · have nn : n = 240 := by omega
        have tt : decide ((n : Int) < 240) = false := by simp; omega
        have HB5 := Lib.hid (below_dn HB4.out q)
        clear hlt nn
        generalize w4.drewN q = w5 at *
        go_wp2_with fail
        go_ret
        exact ⟨rfl, HB5.out⟩
end Go.Proofs.Ytbljlnhgllbbdaa.Ht
