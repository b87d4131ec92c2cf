/- Channels that are none bring nothing: walked. -/
import Derived.Test.YtbpeppmajmhmiaaDm
namespace Go.Proofs.Ytbpeppmajmhmiaa.Dn
set_option linter.unusedVariables false
set_option linter.unusedSimpArgs false
open Go.RowKit Go.Proofs.Ytbpeppmajmhmiaa.Bt Go.Proofs.Ytbpeppmajmhmiaa.Wk Go.Proofs.Ytbpeppmajmhmiaa.Sg Go.Proofs.Ytbpeppmajmhmiaa.Dp Go.Proofs.Ytbpeppmajmhmiaa.Da Go.Proofs.Ytbpeppmajmhmiaa.Db Go.Proofs.Ytbpeppmajmhmiaa.Dc Go.Proofs.Ytbpeppmajmhmiaa.Dd Go.Proofs.Ytbpeppmajmhmiaa.De Go.Proofs.Ytbpeppmajmhmiaa.Fq Go.Proofs.Ytbpeppmajmhmiaa.Df Go.Proofs.Ytbpeppmajmhmiaa.Dg Go.Proofs.Ytbpeppmajmhmiaa.Dh Go.Proofs.Ytbpeppmajmhmiaa.Di Go.Proofs.Ytbpeppmajmhmiaa.Dj Go.Proofs.Ytbpeppmajmhmiaa.Dk Go.Proofs.Ytbpeppmajmhmiaa.Dl Go.Proofs.Ytbpeppmajmhmiaa.Dm

set_option maxRecDepth 100000 in
theorem step_nil (m : Value) (w : World) : Calls Try.prog 11 #[.pointer none, m] w fun e w' => e = .returned (.tuple #[.int .i64 (-1), .bool false, .bool false]) ∧ w = w' := by
  go_enter Try.func11, Try.ntmps11
  go_wp2_with (go_at_call 13; ((with_reducible refine (ready_nil _).mono ?_); rintro e w' ⟨rfl, rfl⟩))
  go_ret3
  exact ⟨rfl, rfl⟩
set_option maxRecDepth 100000 in
theorem step_nomem {w : World} {ub : Nat} {T : TypeId} {u : Nat → Ch} (h : isU w ub T u) : Calls Try.prog 11 #[.pointer (some ⟨ub, 0, none⟩), .nilIface] w fun e w' => e = .returned (.tuple #[.int .i64 (-1), .bool false, .bool false]) ∧ w = w' := by
  have RD := Lib.hid (ready_any h)
  clear h
  by_cases hr : ready u < 0
  · have t : decide (ready u < 0) = true := decide_eq_true hr
    generalize ready u = r at *
    go_enter Try.func11, Try.ntmps11
    go_wp2_with (go_at_call 13; ((with_reducible refine RD.out.mono ?_); rintro e w' ⟨rfl, rfl⟩))
    go_ret3
    exact ⟨rfl, rfl⟩
  · have t : decide (ready u < 0) = false := decide_eq_false hr
    generalize ready u = r at *
    go_enter Try.func11, Try.ntmps11
    go_wp2_with (go_at_call 13; ((with_reducible refine RD.out.mono ?_); rintro e w' ⟨rfl, rfl⟩))
    go_ret3
    exact ⟨rfl, rfl⟩
theorem uN_ready : ready (wrU (fun _ => zeroCh) 0 5 32768) = 0 := by kernel_rfl
set_option maxRecDepth 100000 in
set_option maxHeartbeats 8000000 in
theorem none_law (kind i part x n addr : Int) (h1 : (Lit.int .i64 kind).wf = true) (h2 : (Lit.int .i64 i).wf = true) (h3 : (Lit.int .i64 part).wf = true) (h4 : (Lit.int .u16 x).wf = true) (h5 : (Lit.int .i64 n).wf = true) (h6 : (Lit.int .u32 addr).wf = true) (w : World) :
    Calls Try.prog 7 #[.agg #[.int .i64 kind, .int .i64 i, .int .i64 part, .int .u16 x, .int .i64 n, .int .u32 addr]] w fun e w' => e = .returned (.bool true) ∧ Below w.heap.size w w' := by
  clear h1 h2 h3 h4 h5 h6
  have A0 := alloc_new w (.cells #[.int .i64 kind, .int .i64 i, .int .i64 part, .int .u16 x, .int .i64 n, .int .u32 addr] 52)
  have L0 := Lib.hid (bl w (.cells #[.int .i64 kind, .int .i64 i, .int .i64 part, .int .u16 x, .int .i64 n, .int .u32 addr] 52))
  have AW := Lib.hid (fun w => awake_any w)
  have N1 := Lib.hid (fun w => write_out none i part x (.inr (.inr rfl)) w)
  have N2 := Lib.hid (fun w => moment_nil i w)
  have N3 := Lib.hid (fun w => hungry_nil addr w)
  have N4 := Lib.hid (fun w => control_out none i (.inr (.inr rfl)) w)
  go_enter Try.func7, Try.ntmps7
  go_wp2_with fail
  refine (AW.out _).mono ?_
  rintro e w1 ⟨rfl, hb⟩
  have A1 := keep hb A0
  have L1 := Lib.hid (below_then L0.out hb (by simp))
  have c1 := cellsAt A1 1
  have c2 := cellsAt A1 2
  have c3 := cellsAt A1 3
  have c5 := cellsAt A1 5
  have s1 := sizeAt A1
  have A1H := Lib.hid A1
  clear hb A0 A1 L0
  simp only [List.getElem?_toArray, List.getElem?_cons_zero, List.getElem?_cons_succ] at c1 c2 c3 c5
  go_wp2_with (first | (go_at_call 10; (with_reducible refine (N1.out _).mono ?_); rintro e w' ⟨rfl, rfl⟩) | (go_at_call 15; (with_reducible refine (N2.out _).mono ?_); rintro e w' ⟨rfl, rfl⟩) | (go_at_call 17; (with_reducible refine (N3.out _).mono ?_); rintro e w' ⟨rfl, rfl⟩) | (go_at_call 11; (with_reducible refine (step_nil _ _).mono ?_); rintro e w' ⟨rfl, rfl⟩) | (go_at_call 9; (with_reducible refine (new_any _).mono ?_); rintro e w' ⟨rfl, rfl⟩))
  have A2 := alloc_new (w1.alloc (Obj.cells #[Value.slice none 0 0, Value.slice none 0 0] 29)) (.cells (cells fun _ => zeroCh).toArray 62)
  have A3 := alloc_old (.cells (cells fun _ => zeroCh).toArray 62) (alloc_old (Obj.cells #[Value.slice none 0 0, Value.slice none 0 0] 29) A1H.out)
  have L2 := (L1.out.alloc L1.out.size (Obj.cells #[Value.slice none 0 0, Value.slice none 0 0] 29)).alloc (by simp; have := L1.out.size; omega) (.cells (cells fun _ => zeroCh).toArray 62)
  have z1 : w.heap.size ≤ w1.heap.size := L1.out.size
  simp only [World.size_alloc] at A2
  have z2 : ((w1.alloc (Obj.cells #[Value.slice none 0 0, Value.slice none 0 0] 29)).alloc (.cells (cells fun _ => zeroCh).toArray 62)).heap.size = w1.heap.size + 2 := by simp
  generalize (w1.alloc (Obj.cells #[Value.slice none 0 0, Value.slice none 0 0] 29)).alloc (.cells (cells fun _ => zeroCh).toArray 62) = W2 at *
  have WR : Calls Try.prog 10 #[.pointer (some ⟨w1.heap.size + 1, 0, none⟩), .int .i64 0, .int .i64 5, .int .u16 32768] W2 _ := writeP (i := 0) (isU_b1 (T := 62) (u := fun _ => zeroCh) A2 0) (by decide) wf_zero 5 32768 (by decide) (by decide)
  refine WR.mono ?_
  rintro e w3 ⟨rfl, b⟩
  have U3 : isU w3 (w1.heap.size + 1) 62 (wrU (fun _ => zeroCh) 0 5 32768) := b.at_
  have A4 := b.keep A3 (by omega)
  have L3 := Lib.hid (below_only L2 b (by omega) (by omega))
  have RD : Calls Try.prog 13 #[.pointer (some ⟨w1.heap.size + 1, 0, none⟩)] w3 _ := ready_any U3
  rw [uN_ready] at RD
  have RDH := Lib.hid RD
  have SN := Lib.hid (step_nomem U3)
  have d1 := cellsAt A4 1
  simp only [List.getElem?_toArray, List.getElem?_cons_zero, List.getElem?_cons_succ] at d1
  have lt := sizeAt A4
  clear WR b U3 A4 L2 A2 A3 A1H L1 RD c1 c2 c3 c5 s1
  go_wp2_with (first | (go_at_call 11; (with_reducible refine SN.out.mono ?_); rintro e w' ⟨rfl, rfl⟩) | (go_at_call 14; (with_reducible refine (N4.out _).mono ?_); rintro e w' ⟨rfl, rfl⟩) | (go_at_call 13; (with_reducible refine (ready_nil _).mono ?_); rintro e w' ⟨rfl, rfl⟩) | (go_at_call 13; (with_reducible refine RDH.out.mono ?_); rintro e w' ⟨rfl, rfl⟩))
  go_ret
  exact ⟨rfl, L3.out⟩
end Go.Proofs.Ytbpeppmajmhmiaa.Dn
