/- The channels' anchor, walked. -/
import Derived.Test.YtbpeppmajmhmiaaDl
namespace Go.Proofs.Ytbpeppmajmhmiaa.Dm
set_option linter.unusedVariables false
set_option linter.unusedSimpArgs false
open Go.RowKit Go.Proofs.Ytbpeppmajmhmiaa.Bt Go.Proofs.Ytbpeppmajmhmiaa.Wk Go.Proofs.Ytbpeppmajmhmiaa.Sg Go.Proofs.Ytbpeppmajmhmiaa.Dp Go.Proofs.Ytbpeppmajmhmiaa.Da Go.Proofs.Ytbpeppmajmhmiaa.Db Go.Proofs.Ytbpeppmajmhmiaa.Dc Go.Proofs.Ytbpeppmajmhmiaa.Dd Go.Proofs.Ytbpeppmajmhmiaa.De Go.Proofs.Ytbpeppmajmhmiaa.Fq Go.Proofs.Ytbpeppmajmhmiaa.Df Go.Proofs.Ytbpeppmajmhmiaa.Dg Go.Proofs.Ytbpeppmajmhmiaa.Dh Go.Proofs.Ytbpeppmajmhmiaa.Di Go.Proofs.Ytbpeppmajmhmiaa.Dj Go.Proofs.Ytbpeppmajmhmiaa.Dk Go.Proofs.Ytbpeppmajmhmiaa.Dl

theorem plan_same (w : World) : (binOp .eql 36 (.agg #[.int .i64 0, .bool true, .int .u32 33554434, .int .u32 50331650, .int .i64 2, .int .i64 1]) (.agg #[.int .i64 0, .bool true, .int .u32 33554434, .int .u32 50331650, .int .i64 2, .int .i64 1])).run Try.prog w = .ok (.bool true) w := by kernel_rfl
set_option maxRecDepth 100000 in
set_option maxHeartbeats 8000000 in
theorem awake_any (w : World) : Calls Try.prog 8 #[] w fun e w' => e = .returned (.bool true) ∧ Below w.heap.size w w' := by
  have P0 := start_ps w
  have L0 := start_bl w
  generalize hu0 : (fun _ => zeroCh : Nat → Ch) = u0 at *
  have HU := Lib.hid hu0
  have PH := Lib.hid P0
  have LH := Lib.hid L0
  clear P0 L0 hu0
  have NW := Lib.hid (new_any w)
  rw [HU.out] at NW
  generalize hcs : (cells u0).toArray = cs at *
  clear hcs
  go_enter Try.func8, Try.ntmps8
  go_wp2_with (go_at_call 9; ((with_reducible refine NW.out.mono ?_); rintro e w' ⟨rfl, rfl⟩))
  have V0 : Iv u0 := by rw [← HU.out]; exact iv_zero
  generalize (w.alloc (Obj.cells cs 62)).alloc (Obj.cells #[Value.slice none 0 0, Value.slice none 0 0] 29) = W0 at *
  clear NW
  have V1 := iv_wrU (i := 0) (part := 1) (x := 512) V0 (by decide) (by decide) (by decide)
  have C0 : Calls Try.prog 10 #[.pointer (some ⟨w.heap.size, 0, none⟩), .int .i64 0, .int .i64 1, .int .u16 512] W0 _ := write_ps (i := 0) PH.out V0 (by decide) 1 512 (by decide) (by decide)
  generalize hu1 : wrU u0 0 1 512 = u1 at *
  refine C0.mono ?_
  rintro e W1 ⟨rfl, S⟩
  have LH2 := Lib.hid (ps_below PH.out S LH.out)
  have PH2 := Lib.hid S.ps
  clear S PH LH C0
  have PH := PH2
  have LH := LH2
  clear PH2 LH2
  go_wp2_with fail
  have V2 := iv_wrU (i := 0) (part := 3) (x := 768) V1 (by decide) (by decide) (by decide)
  have C1 : Calls Try.prog 10 #[.pointer (some ⟨w.heap.size, 0, none⟩), .int .i64 0, .int .i64 3, .int .u16 768] W1 _ := write_ps (i := 0) PH.out V1 (by decide) 3 768 (by decide) (by decide)
  generalize hu2 : wrU u1 0 3 768 = u2 at *
  refine C1.mono ?_
  rintro e W2 ⟨rfl, S⟩
  have LH2 := Lib.hid (ps_below PH.out S LH.out)
  have PH2 := Lib.hid S.ps
  clear S PH LH C1
  have PH := PH2
  have LH := LH2
  clear PH2 LH2
  go_wp2_with fail
  have V3 := iv_wrU (i := 0) (part := 4) (x := 2) V2 (by decide) (by decide) (by decide)
  have C2 : Calls Try.prog 10 #[.pointer (some ⟨w.heap.size, 0, none⟩), .int .i64 0, .int .i64 4, .int .u16 2] W2 _ := write_ps (i := 0) PH.out V2 (by decide) 4 2 (by decide) (by decide)
  generalize hu3 : wrU u2 0 4 2 = u3 at *
  refine C2.mono ?_
  rintro e W3 ⟨rfl, S⟩
  have LH2 := Lib.hid (ps_below PH.out S LH.out)
  have PH2 := Lib.hid S.ps
  clear S PH LH C2
  have PH := PH2
  have LH := LH2
  clear PH2 LH2
  go_wp2_with fail
  have V4 := iv_wrU (i := 0) (part := 5) (x := 32768) V3 (by decide) (by decide) (by decide)
  have C3 : Calls Try.prog 10 #[.pointer (some ⟨w.heap.size, 0, none⟩), .int .i64 0, .int .i64 5, .int .u16 32768] W3 _ := write_ps (i := 0) PH.out V3 (by decide) 5 32768 (by decide) (by decide)
  generalize hu4 : wrU u3 0 5 32768 = u4 at *
  refine C3.mono ?_
  rintro e W4 ⟨rfl, S⟩
  have LH2 := Lib.hid (ps_below PH.out S LH.out)
  have PH2 := Lib.hid S.ps
  clear S PH LH C3
  have PH := PH2
  have LH := LH2
  clear PH2 LH2
  go_wp2_with fail
  have hA : u4 = uA := by rw [← hu4, ← hu3, ← hu2, ← hu1, ← HU.out]; rfl
  subst hA
  have D1 : Calls Try.prog 11 #[.pointer (some ⟨w.heap.size, 0, none⟩), .iface 25 (.pointer (some ⟨w.heap.size + 1, 0, none⟩))] W4 _ := step_ps (i := 0) PH.out V4 uA_ready rfl (by decide)
  rw [uA_d, Bool.false_and] at D1
  refine D1.mono ?_
  rintro e W5 ⟨rfl, pv1, wv1, S⟩
  have LH2 := Lib.hid (ps_below PH.out S LH.out)
  have PH2 := Lib.hid S.ps
  clear S PH LH D1
  have V5 : Iv (stepU uA 0) := iv_step V4 uA_ready
  go_wp2_with fail
  have D2 : Calls Try.prog 11 #[.pointer (some ⟨w.heap.size, 0, none⟩), .iface 25 (.pointer (some ⟨w.heap.size + 1, 0, none⟩))] W5 _ := step_ps (i := 0) PH2.out V5 uB_ready rfl (by decide)
  rw [uB_d, Bool.true_and] at D2
  generalize stepA (stepU uA 0) 0 = sa at *
  refine D2.mono ?_
  rintro e W6 ⟨rfl, pv2, wv2, S⟩
  have LH := Lib.hid (ps_below PH2.out S LH2.out)
  have PH := Lib.hid S.ps
  clear S PH2 LH2 D2
  have T0 := tape0 PH.out
  obtain ⟨g, cap, rfl, PC⟩ := plan_at PH.out (i := 1) (by decide)
  simp only [List.nil_append, List.cons_append, List.getElem_cons_succ, List.getElem_cons_zero, uB_p] at PC
  have c0 : W6.cell? ⟨g, 6, none⟩ = _ := PC 0 (by decide)
  have c1 : W6.cell? ⟨g, 7, none⟩ = _ := PC 1 (by decide)
  have c2 : W6.cell? ⟨g, 8, none⟩ = _ := PC 2 (by decide)
  have c3 : W6.cell? ⟨g, 9, none⟩ = _ := PC 3 (by decide)
  have c4 : W6.cell? ⟨g, 10, none⟩ = _ := PC 4 (by decide)
  have c5 : W6.cell? ⟨g, 11, none⟩ = _ := PC 5 (by decide)
  simp only [encP, List.getElem?_cons_zero, List.getElem?_cons_succ] at c0 c1 c2 c3 c4 c5
  clear PC
  have CT : Calls Try.prog 14 #[.pointer (some ⟨w.heap.size, 0, none⟩), .int .i64 0] W6 _ := control_any (i := 0) PH.out.hu (by decide)
  rw [uC_ctl] at CT
  have CTH := Lib.hid CT
  clear CT
  have PS1 := plan_same
  go_wp2_with (go_at_call 14; ((with_reducible refine CTH.out.mono ?_); rintro e w' ⟨rfl, rfl⟩))
  go_ret
  exact ⟨rfl, LH.out⟩
end Go.Proofs.Ytbpeppmajmhmiaa.Dm
