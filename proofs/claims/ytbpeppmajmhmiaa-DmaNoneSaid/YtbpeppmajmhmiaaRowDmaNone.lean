/- DmaNone: the row of the statement, out of its walk. It holds for every input. -/
import Derived.Test.YtbpeppmajmhmiaaRows
import Derived.Test.YtbpeppmajmhmiaaDn
import Derived.WalkKit
import Derived.ProofKit
import Derived.OpenShut
import Derived.ShutString
import Derived.ChangeOld
import Derived.Below
import Derived.SizedLaws
import Derived.Carry
namespace Go.Proofs.Ytbpeppmajmhmiaa.dmaNone
set_option linter.unusedVariables false
set_option linter.unusedSimpArgs false
open Go.ChangeShapes Go.WideShapes Go.ChangeAt Go.RowKit
open Go.ChangeMaps (open_string shut_string)
theorem own : ownKnob Try.prog.godebug = none := by kernel_rfl
theorem laidOut : laidOutB Try.prog = true := by kernel_rfl
theorem z3 : Try.prog.cellsOf 3 = 1 := by kernel_rfl
theorem z31 : Try.prog.cellsOf 31 = 1 := by kernel_rfl
theorem z34 : Try.prog.cellsOf 34 = 1 := by kernel_rfl
theorem z52 : Try.prog.cellsOf 52 = 6 := by kernel_rfl
set_option maxRecDepth 100000 in
set_option maxHeartbeats 4000000 in
theorem open_t52 {H : Type} {enc : TypeId × Value → H} {W : World} {base : Nat} {v : Value} {d : DataW H} {p : List MemPlace} (hv : Value.okWide Try.prog W .any base 52 v) (h : DataW.Trod enc Try.prog W 0 (fun _ => true) true 52 v d p) :
    ∃ (a0 : Int) (a1 : Int) (a2 : Int) (a3 : Int) (a4 : Int) (a5 : Int), v = .agg #[.int .i64 a0, .int .i64 a1, .int .i64 a2, .int .u16 a3, .int .i64 a4, .int .u32 a5] ∧ (Lit.int .i64 a0).wf = true ∧ (Lit.int .i64 a1).wf = true ∧ (Lit.int .i64 a2).wf = true ∧ (Lit.int .u16 a3).wf = true ∧ (Lit.int .i64 a4).wf = true ∧ (Lit.int .u32 a5).wf = true := by
  obtain ⟨cs, rfl, hsz⟩ := okWide_struct Try.underlying52 hv
  obtain ⟨l⟩ := cs
  match l, hsz.trans z52 with
  | [c0, c1, c2, c3, c4, c5], _ =>
    obtain ⟨fuel, hf⟩ := h
    simp only [Value.cells] at hf
    obtain ⟨xs1, n1, _, _, _, hl1, hg1⟩ := DataW.trod_struct Try.underlying52 hf
    have g1_0 : DataW.trod enc Try.prog W 0 (fun _ => true) true n1 3 ((([c0, c1, c2, c3, c4, c5] : List Value).drop 0).take (Try.prog.cellsOf 3)) = xs1[0]? := hg1 0 _ rfl
    have g1_1 : DataW.trod enc Try.prog W 0 (fun _ => true) true n1 3 ((([c0, c1, c2, c3, c4, c5] : List Value).drop 1).take (Try.prog.cellsOf 3)) = xs1[1]? := hg1 1 _ rfl
    have g1_2 : DataW.trod enc Try.prog W 0 (fun _ => true) true n1 3 ((([c0, c1, c2, c3, c4, c5] : List Value).drop 2).take (Try.prog.cellsOf 3)) = xs1[2]? := hg1 2 _ rfl
    have g1_3 : DataW.trod enc Try.prog W 0 (fun _ => true) true n1 31 ((([c0, c1, c2, c3, c4, c5] : List Value).drop 3).take (Try.prog.cellsOf 31)) = xs1[3]? := hg1 3 _ rfl
    have g1_4 : DataW.trod enc Try.prog W 0 (fun _ => true) true n1 3 ((([c0, c1, c2, c3, c4, c5] : List Value).drop 4).take (Try.prog.cellsOf 3)) = xs1[4]? := hg1 4 _ rfl
    have g1_5 : DataW.trod enc Try.prog W 0 (fun _ => true) true n1 34 ((([c0, c1, c2, c3, c4, c5] : List Value).drop 5).take (Try.prog.cellsOf 34)) = xs1[5]? := hg1 5 _ rfl
    replace hl1 : xs1.length = 6 := hl1
    rw [List.getElem?_eq_getElem (by omega)] at g1_0
    simp only [z3, z31, z34, z52, Nat.reduceMul, List.drop_succ_cons, List.drop_zero, List.take_succ_cons, List.take_zero] at g1_0
    obtain ⟨a0, e0, _, w0⟩ := DataW.trod_int Try.underlying3 g1_0
    obtain rfl : c0 = .int .i64 a0 := by simpa using e0
    rw [List.getElem?_eq_getElem (by omega)] at g1_1
    simp only [z3, z31, z34, z52, Nat.reduceMul, List.drop_succ_cons, List.drop_zero, List.take_succ_cons, List.take_zero] at g1_1
    obtain ⟨a1, e1, _, w1⟩ := DataW.trod_int Try.underlying3 g1_1
    obtain rfl : c1 = .int .i64 a1 := by simpa using e1
    rw [List.getElem?_eq_getElem (by omega)] at g1_2
    simp only [z3, z31, z34, z52, Nat.reduceMul, List.drop_succ_cons, List.drop_zero, List.take_succ_cons, List.take_zero] at g1_2
    obtain ⟨a2, e2, _, w2⟩ := DataW.trod_int Try.underlying3 g1_2
    obtain rfl : c2 = .int .i64 a2 := by simpa using e2
    rw [List.getElem?_eq_getElem (by omega)] at g1_3
    simp only [z3, z31, z34, z52, Nat.reduceMul, List.drop_succ_cons, List.drop_zero, List.take_succ_cons, List.take_zero] at g1_3
    obtain ⟨a3, e3, _, w3⟩ := DataW.trod_int Try.underlying31 g1_3
    obtain rfl : c3 = .int .u16 a3 := by simpa using e3
    rw [List.getElem?_eq_getElem (by omega)] at g1_4
    simp only [z3, z31, z34, z52, Nat.reduceMul, List.drop_succ_cons, List.drop_zero, List.take_succ_cons, List.take_zero] at g1_4
    obtain ⟨a4, e4, _, w4⟩ := DataW.trod_int Try.underlying3 g1_4
    obtain rfl : c4 = .int .i64 a4 := by simpa using e4
    rw [List.getElem?_eq_getElem (by omega)] at g1_5
    simp only [z3, z31, z34, z52, Nat.reduceMul, List.drop_succ_cons, List.drop_zero, List.take_succ_cons, List.take_zero] at g1_5
    obtain ⟨a5, e5, _, w5⟩ := DataW.trod_int Try.underlying34 g1_5
    obtain rfl : c5 = .int .u32 a5 := by simpa using e5
    exact ⟨a0, a1, a2, a3, a4, a5, rfl, w0, w1, w2, w3, w4, w5⟩
set_option maxRecDepth 100000 in
theorem lifted (os : Os) (started : os.Started) (H : Type) (enc : TypeId × Value → H) :
    ReturnsInHanded {} Try.checked os 7 .any (Rows.dmaNoneSpec.pre6 enc Try.prog Try.f7 Rows.dmaNoneRow.domain false) (Rows.dmaNoneSpec.post enc Try.prog Try.f7 false true false false) := by
  refine returnsInHanded_of_change_sized (C := Try.checked) own started (by kernel_rfl) Try.func7
    (ChangeSpec.witness6 (enc := enc) (C := Try.checked) false ⟨#[], #[.agg #[.int .i64 0, .int .i64 0, .int .i64 0, .int .u16 0, .int .i64 0, .int .u32 0]], []⟩ 8 (by kernel_rfl) (by kernel_rfl) (by kernel_rfl) (by kernel_rfl)) ?_
  intro W base args ds gs before hval0 hW hcnd hsz0 _
  have hval : ∀ (j : Nat) t v, Try.f7.params[j]? = some t → args[j]? = some v → Value.okWide Try.prog W .any base t v := hval0
  have hW' := hW
  obtain ⟨p, q, hA0, hV, rfl, hfz, hnd⟩ := hW
  have hA : DataW.TrodAll enc Try.prog W 0 (fun _ => true) true Try.f7.params.toList args.toList ds p := hA0
  rw [Try.params7] at hA hval
  obtain ⟨v0, vs0, d0, ds0, p0, q0, hargs, rfl, rfl, h0, r0⟩ := trodAll_cons hA
  obtain ⟨rfl, rfl, rfl⟩ := trodAll_nil r0
  obtain rfl : args = #[v0] := by cases args; simp_all
  obtain ⟨rfl, rfl⟩ := trodVars_none hV
  have k0 := h0
  have lt0 : ∀ x ∈ p0, x.block < W.heap.size := by obtain ⟨m, hm⟩ := k0; exact DataW.trod_lt m _ _ _ hm
  obtain ⟨b0_0, b0_1, b0_2, b0_3, b0_4, b0_5, rfl, w0_0, w0_1, w0_2, w0_3, w0_4, w0_5⟩ := open_t52 (hval 0 52 v0 rfl rfl) h0
  clear hA0 hval0 hsz0
  refine (Dn.none_law b0_0 b0_1 b0_2 b0_3 b0_4 b0_5 w0_0 w0_1 w0_2 w0_3 w0_4 w0_5 W).mono fun e W' ⟨he, bel⟩ => ?_
  subst he
  exact ⟨_, rfl, _, _, _, [], _, [], hW', trodAll_mk1 (shut_bool Try.underlying4 _), (trodAll_cons_mk (Below.trod laidOut (by kernel_rfl) (of_decide_eq_true (by kernel_rfl)) k0 bel lt0) trodAll_mk0), rfl, bel.frame _, fun h => by cases h⟩
theorem over : Rows.dmaNoneRow.holds Try.pinned (OpenSpec.ofChange Rows.dmaNoneSpec) :=
  OpenClaim.holds_of_wide 7 Try.f7 rfl rfl rfl rfl rfl rfl rfl ⟨rfl, rfl, rfl, rfl, rfl⟩ rfl rfl rfl rfl rfl (by kernel_rfl) Try.func7 (by kernel_rfl)
    (of_decide_eq_true (by kernel_rfl)) (by unfold Func.isWrapper; first | (rw [if_pos (by decide +kernel)]; kernel_rfl) | (rw [if_neg (by decide +kernel)]; exact ⟨rfl, rfl⟩))
    (fun os started H enc _ => lifted os started H enc)
theorem proved : Rows.DmaNoneSaid := over
end Go.Proofs.Ytbpeppmajmhmiaa.dmaNone
namespace Go.Proofs.Ytbpeppmajmhmiaa
theorem dmaNone_holds : Rows.DmaNoneSaid := dmaNone.proved
#print axioms dmaNone_holds
end Go.Proofs.Ytbpeppmajmhmiaa
