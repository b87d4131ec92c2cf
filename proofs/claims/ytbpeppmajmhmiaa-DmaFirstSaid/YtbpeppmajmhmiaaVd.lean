/- The document's channels, walked: Next. -/
import Derived.Test.YtbpeppmajmhmiaaVc
import Derived.Test.YtbpeppmajmhmiaaQt
namespace Go.Proofs.Ytbpeppmajmhmiaa.Vd
set_option linter.unusedVariables false
set_option linter.unusedSimpArgs false
open Go.RowKit Go.Proofs.Ytbpeppmajmhmiaa.Bt Go.Proofs.Ytbpeppmajmhmiaa.Wk Go.Proofs.Ytbpeppmajmhmiaa.Sg Go.Proofs.Ytbpeppmajmhmiaa.Dp Go.Proofs.Ytbpeppmajmhmiaa.Da Go.Proofs.Ytbpeppmajmhmiaa.Db Go.Proofs.Ytbpeppmajmhmiaa.Dc Go.Proofs.Ytbpeppmajmhmiaa.Dd Go.Proofs.Ytbpeppmajmhmiaa.De Go.Proofs.Ytbpeppmajmhmiaa.Fq Go.Proofs.Ytbpeppmajmhmiaa.Df Go.Proofs.Ytbpeppmajmhmiaa.Dg Go.Proofs.Ytbpeppmajmhmiaa.Dh Go.Proofs.Ytbpeppmajmhmiaa.Di Go.Proofs.Ytbpeppmajmhmiaa.Dj Go.Proofs.Ytbpeppmajmhmiaa.Dk Go.Proofs.Ytbpeppmajmhmiaa.Va Go.Proofs.Ytbpeppmajmhmiaa.Vb Go.Proofs.Ytbpeppmajmhmiaa.Vc Go.Proofs.Ytbpeppmajmhmiaa.Qt

def pz : Pl := ⟨0, false, 0, 0, 0, 0⟩
/-- Within Next: the unit, the result's block, the plan's block. -/
structure NX (w wx : World) (ub : Nat) (T : TypeId) (u : Nat → Ch) (p : Pl) : Prop where
  un : isU wx ub T u
  rb : wx.heap[w.heap.size]? = some (.cells (encP pz).toArray 36 (0, 0))
  pb : wx.heap[w.heap.size + 1]? = some (.cells (encP p).toArray 36 (0, 0))
  bl : Below w.heap.size w wx
theorem NX.set {w wx : World} {ub : Nat} {T : TypeId} {u : Nat → Ch} {p p' : Pl} (h : NX w wx ub T u p) (lt : ub < w.heap.size) (j : Nat) (v : Value) (e : (encP p).set j v = encP p') : NX w (wx.setCell ⟨w.heap.size + 1, j, none⟩ v) ub T u p' := by
  have O := (Only.refl h.pb).set (j := j) v
  refine ⟨O.keep h.un (by omega), O.keep h.rb (by omega), ?_, below_only h.bl O (by omega) h.bl.size⟩
  have := O.at_
  rw [toArray_set, e] at this
  exact this
theorem NX.drewN {w wx : World} {ub : Nat} {T : TypeId} {u : Nat → Ch} {p : Pl} (h : NX w wx ub T u p) (n : Nat) : NX w (wx.drewN n) ub T u p := ⟨h.un, h.rb, h.pb, below_dn h.bl n⟩
/-- What the document says that a unit does. -/
def rplan (c : Ch) (i : Int) : Pl := ⟨i, decide (33554432 ≤ c.at_), algn c.at_ (width c i), algn c.to_ (width c i), width c i, cls c⟩
theorem sub_al {a wd : Int} (hw : wd = 2 ∨ wd = 4) (h0 : 0 ≤ a) (h1 : a < 4294967296) : (a - a % wd) % 4294967296 = algn a wd := by
  unfold algn; rcases hw with rfl | rfl <;> omega
set_option maxRecDepth 100000 in
set_option maxHeartbeats 8000000 in
theorem rnext_any {w : World} {ub i : Nat} {T : TypeId} {u : Nat → Ch} (h : isU w ub T u) (f : Wf (u i)) (hi : i < 4) (hr : ready u = i) :
    Calls Try.prog 28 #[.pointer (some ⟨ub, 0, none⟩)] w fun e w' => e = .returned (.agg (encP (rplan (u i) i)).toArray) ∧ Below w.heap.size w w' := by
  have lt := sizeAt h
  have N0 : NX w ((w.alloc (.cells (encP pz).toArray 36)).alloc (.cells #[.int .i64 i, .bool false, .int .u32 0, .int .u32 0, .int .i64 2, .int .i64 1] 36)) ub T u ⟨i, false, 0, 0, 2, 1⟩ := by
    have a1 := alloc_new w (.cells (encP pz).toArray 36)
    have a2 := alloc_new (w.alloc (.cells (encP pz).toArray 36)) (.cells (encP ⟨i, false, 0, 0, 2, 1⟩).toArray 36)
    simp only [World.size_alloc] at a2
    exact ⟨alloc_old _ (alloc_old _ h), alloc_old _ a1, a2, bl2 (bl w _) _⟩
  have RD := Lib.hid (fun w1 (q : isU w1 ub T u) => rready_any q)
  have U1 : isU (w.alloc (.cells (encP pz).toArray 36)) ub T u := alloc_old _ h
  have R1 := rready_any U1
  rw [hr] at R1
  have R1H := Lib.hid R1
  have N0H := Lib.hid N0
  have i0 : (0 : Int) ≤ (i : Int) := by omega
  have i4 : (i : Int) < 4 := by omega
  have FH := Lib.hid f
  have ct0 := f.c0
  have ct1 := f.c1
  generalize hc : u i = c at *
  have HC := Lib.hid hc
  have w2 := width_or c i
  have WE := Lib.hid (show width c i = if c.ctl / 1024 % 2 = 1 ∨ sound c i = true then 4 else 2 from rfl)
  have RP := Lib.hid (show rplan c i = ⟨i, decide (33554432 ≤ c.at_), algn c.at_ (width c i), algn c.to_ (width c i), width c i, cls c⟩ from rfl)
  have CL := Lib.hid (show cls c = if c.first then 0 else 1 from rfl)
  clear h f hc R1 U1 RD N0 hr
  generalize width c i = wd at *
  generalize cls c = cl at *
  generalize rplan c i = rp at *
  have w2l : 2 ≤ wd := by omega
  have w2h : wd ≤ 4 := by omega
  go_enter Try.func28, Try.ntmps28
  go_wp2_with fail
  refine R1H.out.mono ?_
  rintro e w' ⟨rfl, rfl⟩
  go_upto_region 4 with fail
  generalize (w.alloc (.cells (encP pz).toArray 36)).alloc (.cells #[.int .i64 i, .bool false, .int .u32 0, .int .u32 0, .int .i64 2, .int .i64 1] 36) = W0 at *
  have b0 := isU_b1 N0H.out.un i
  rw [HC.out] at b0
  have C3 := b0.c3 hi
  have ltW := b0.lt
  have BT := Lib.hid (fun w => bits_10_1 c.ctl ct0 ct1 w)
  have FD := Lib.hid (fun w1 (q : isU w1 ub T u) => (show Calls Try.prog 33 #[.pointer (some ⟨ub, 0, none⟩), .int .i64 i] w1 fun e w' => e = .returned (.bool (sound c i)) ∧ ∃ n, w' = w1.drewN n by
    have b := isU_b1 q i
    rw [HC.out] at b
    exact feeds_any b hi ct0 ct1))
  clear b0 R1H
  go_cut [25] (fun s wx => s = .bool ((c.ctl / 1024 % 2 == 1) || sound c i) ∧ Hid (NX w wx ub T u ⟨i, false, 0, 0, 2, 1⟩))
  case first =>
    cases tb : (c.ctl / 1024 % 2 == 1)
    · generalize c.ctl / 1024 % 2 = k10 at *
      go_wp2_with fail
      refine (BT.out _).mono ?_
      rintro e w' ⟨rfl, q, rfl⟩
      have N1 := Lib.hid (N0H.out.drewN q)
      generalize W0.drewN q = W1 at *
      go_wp2_with fail
      refine (FD.out _ N1.out.un).mono ?_
      rintro e w' ⟨rfl, q2, rfl⟩
      have N2 := Lib.hid (N1.out.drewN q2)
      go_wp2_with fail
      go_meet
      case rel => exact ⟨by simp [tb], N2⟩
    · generalize c.ctl / 1024 % 2 = k10 at *
      go_wp2_with fail
      refine (BT.out _).mono ?_
      rintro e w' ⟨rfl, q, rfl⟩
      have N1 := Lib.hid (N0H.out.drewN q)
      go_wp2_with fail
      go_meet
      case rel => exact ⟨by simp [tb], N1⟩
  case rest =>
  obtain ⟨rfl, N1⟩ := hcut
  clear N0H C3 ltW
  have wE : wd = if ((c.ctl / 1024 % 2 == 1) || sound c i) = true then 4 else 2 := by
    rw [WE.out]; simp
  have WE2 := Lib.hid wE
  clear wE WE
  generalize ((c.ctl / 1024 % 2 == 1) || sound c i) = b4 at *
  go_upto_if 25 with fail
  go_cut [] (fun wx => Hid (NX w wx ub T u ⟨i, false, 0, 0, wd, 1⟩))
  case first =>
    have P4 := cellsAt N1.out.pb 4
    have PF := freeAt N1.out.pb 4
    have PL := sizeAt N1.out.pb
    cases b4
    · have N2 : Hid (NX w wc ub T u ⟨i, false, 0, 0, wd, 1⟩) := Lib.hid (by rw [WE2.out]; exact N1.out)
      go_wp2_with fail
      go_meet
      case rel => exact N2
    · have N2 : Hid (NX w (wc.setCell ⟨w.heap.size + 1, 4, none⟩ (.int .i64 4)) ub T u ⟨i, false, 0, 0, wd, 1⟩) := Lib.hid (N1.out.set lt 4 (.int .i64 4) (by rw [WE2.out]; rfl))
      go_wp2_with fail
      go_meet
      case rel => exact N2
  case rest =>
  have N2 := hcut
  clear N1
  have b0 := isU_b1 N2.out.un i
  rw [HC.out] at b0
  have C8 := b0.c8 hi
  have ltW := b0.lt
  clear b0
  go_upto_if 30 with fail
  go_cut [] (fun wx => Hid (NX w wx ub T u ⟨i, false, 0, 0, wd, cl⟩))
  case first =>
    have P5 := cellsAt N2.out.pb 5
    have PF := freeAt N2.out.pb 5
    have PL := sizeAt N2.out.pb
    cases tf : c.first
    · have N3 : Hid (NX w wc ub T u ⟨i, false, 0, 0, wd, cl⟩) := Lib.hid (by rw [CL.out, tf]; exact N2.out)
      clear tf
      go_wp2_with fail
      go_meet
      case rel => exact N3
    · have N3 : Hid (NX w (wc.setCell ⟨w.heap.size + 1, 5, none⟩ (.int .i64 0)) ub T u ⟨i, false, 0, 0, wd, cl⟩) := Lib.hid (N2.out.set lt 5 (.int .i64 0) (by rw [CL.out, tf]; rfl))
      clear tf
      go_wp2_with fail
      go_meet
      case rel => exact N3
  case rest =>
  have N3 := hcut
  clear N2 C8 ltW
  have b0 := isU_b1 N3.out.un i
  rw [HC.out] at b0
  have C4 := b0.c4 hi
  have C5 := b0.c5 hi
  have ltW := b0.lt
  have P4 : wc.cell? ⟨w.heap.size + 1, 4, none⟩ = some (.int .i64 wd) := cellsAt N3.out.pb 4
  have P2 : wc.cell? ⟨w.heap.size + 1, 2, none⟩ = some (.int .u32 0) := cellsAt N3.out.pb 2
  have PF := freeAt N3.out.pb 2
  have PL := sizeAt N3.out.pb
  have a0 := FH.out.a0
  have a1 := FH.out.a1
  have t0 := FH.out.t0
  have t1 := FH.out.t1
  have wu : IntKind.u32.wrap wd = wd := by rw [wrap_u32]; omega
  have wz : (wd == 0) = false := by
    have : wd ≠ 0 := by omega
    simpa using this
  have wn : (wd = 0) = False := eq_false (by omega)
  have tma : Int.tmod c.at_ wd = c.at_ % wd := Int.tmod_eq_emod_of_nonneg a0
  have tmt : Int.tmod c.to_ wd = c.to_ % wd := Int.tmod_eq_emod_of_nonneg t0
  have ga : IntKind.u32.wrap (c.at_ - c.at_ % wd) = algn c.at_ wd := by rw [wrap_u32]; exact sub_al w2 a0 a1
  have gt : IntKind.u32.wrap (c.to_ - c.to_ % wd) = algn c.to_ wd := by rw [wrap_u32]; exact sub_al w2 t0 t1
  have W2H := Lib.hid w2
  clear b0 w2
  go_upto_region 8 with fail
  go_cut [] (fun wx => Hid (NX w wx ub T u ⟨i, false, algn c.at_ wd, 0, wd, cl⟩))
  case first =>
    have N4 := Lib.hid (fun n => (N3.out.drewN n).set lt 2 (.int .u32 (algn c.at_ wd)) (p' := ⟨i, false, algn c.at_ wd, 0, wd, cl⟩) rfl)
    refine region_quiet_tail 14 (by kernel_rfl) (by kernel_rfl) ?_
    simp only [List.take_succ_cons, List.take_zero, List.drop_succ_cons, List.drop_zero]
    repeat (quiet_step (fail))
    refine wpQuiet_nil ?_
    intro _ hw'
    obtain ⟨nq, hw''⟩ := hw'
    subst hw''
    go_wp2_with fail
    go_meet
    case rel => exact N4.out _
  case rest =>
  have N4 := hcut
  clear N3 C4 P2 PF PL ltW ga tma
  have b0 := isU_b1 N4.out.un i
  rw [HC.out] at b0
  have C4 := b0.c4 hi
  have C5 := b0.c5 hi
  have ltW := b0.lt
  have P4 : wc.cell? ⟨w.heap.size + 1, 4, none⟩ = some (.int .i64 wd) := cellsAt N4.out.pb 4
  have P3 : wc.cell? ⟨w.heap.size + 1, 3, none⟩ = some (.int .u32 0) := cellsAt N4.out.pb 3
  have PF := freeAt N4.out.pb 3
  have PL := sizeAt N4.out.pb
  clear b0
  go_upto_region 9 with fail
  go_cut [] (fun wx => Hid (NX w wx ub T u ⟨i, false, algn c.at_ wd, algn c.to_ wd, wd, cl⟩))
  case first =>
    have N5 := Lib.hid (fun n => (N4.out.drewN n).set lt 3 (.int .u32 (algn c.to_ wd)) (p' := ⟨i, false, algn c.at_ wd, algn c.to_ wd, wd, cl⟩) rfl)
    refine region_quiet_tail 14 (by kernel_rfl) (by kernel_rfl) ?_
    simp only [List.take_succ_cons, List.take_zero, List.drop_succ_cons, List.drop_zero]
    repeat (quiet_step (fail))
    refine wpQuiet_nil ?_
    intro _ hw'
    obtain ⟨nq, hw''⟩ := hw'
    subst hw''
    go_wp2_with fail
    go_meet
    case rel => exact N5.out _
  case rest =>
  have N5 := hcut
  clear N4 C4 P3 PF PL ltW gt tmt P4 C5
  have b0 := isU_b1 N5.out.un i
  rw [HC.out] at b0
  have C4 := b0.c4 hi
  have ltW := b0.lt
  have P1 : wc.cell? ⟨w.heap.size + 1, 1, none⟩ = some (.bool false) := cellsAt N5.out.pb 1
  have PF := freeAt N5.out.pb 1
  have PL := sizeAt N5.out.pb
  obtain ⟨rd, hrd⟩ : ∃ b, decide (33554432 ≤ c.at_) = b := ⟨_, rfl⟩
  have N6 := Lib.hid (N5.out.set lt 1 (.bool rd) (p' := ⟨i, rd, algn c.at_ wd, algn c.to_ wd, wd, cl⟩) rfl)
  rw [hrd] at RP
  clear b0
  go_upto_region 10 with fail
  go_cut [] (fun wx => Hid (NX w wx ub T u ⟨i, rd, algn c.at_ wd, algn c.to_ wd, wd, cl⟩))
  case first =>
    go_wp2_with fail
    go_meet
    case rel => exact N6
  case rest =>
  have N7 := hcut
  clear N5 N6 C4 P1 PF PL ltW
  have Q := cellsAt N7.out.pb
  have q0 := Q 0
  have q1 := Q 1
  have q2 := Q 2
  have q3 := Q 3
  have q4 := Q 4
  have q5 := Q 5
  simp only [encP, List.getElem?_toArray, List.getElem?_cons_zero, List.getElem?_cons_succ] at q0 q1 q2 q3 q4 q5
  have R := cellsAt N7.out.rb
  have r0 := R 0
  have r1 := R 1
  have r2 := R 2
  have r3 := R 3
  have r4 := R 4
  have r5 := R 5
  simp only [encP, pz, List.getElem?_toArray, List.getElem?_cons_zero, List.getElem?_cons_succ] at r0 r1 r2 r3 r4 r5
  have RF := freeAt N7.out.rb
  have PL := sizeAt N7.out.pb
  have RL := sizeAt N7.out.rb
  clear Q R
  generalize algn c.at_ wd = fa at *
  generalize algn c.to_ wd = ft at *
  go_wp2_with fail
  refine bodyPost_ret (v := .agg #[.int .i64 i, .bool rd, .int .u32 fa, .int .u32 ft, .int .i64 wd, .int .i64 cl]) (by simp [results, Try.results28, go_sem, r0, r1, r2, r3, r4, r5]) rfl ⟨by rw [RP.out]; rfl, ?_⟩
  have L := N7.out.bl
  exact ((((((L.setCell (p := ⟨w.heap.size, 0, none⟩) (Nat.le_refl _) _).setCell (p := ⟨w.heap.size, 1, none⟩) (Nat.le_refl _) _).setCell (p := ⟨w.heap.size, 2, none⟩) (Nat.le_refl _) _).setCell (p := ⟨w.heap.size, 3, none⟩) (Nat.le_refl _) _).setCell (p := ⟨w.heap.size, 4, none⟩) (Nat.le_refl _) _).setCell (p := ⟨w.heap.size, 5, none⟩) (Nat.le_refl _) _)
end Go.Proofs.Ytbpeppmajmhmiaa.Vd
