/- AluDoes: the row of the statement, out of its walk. It holds for every input. -/
import Derived.Test.YtgpcgamhlcihkaaRows
import Derived.Test.YtgpcgamhlcihkaaAl
import Derived.WalkKit
import Derived.ProofKit
import Derived.OpenShut
import Derived.ShutString
import Derived.ChangeOld
import Derived.Below
import Derived.SizedLaws
import Derived.Carry
namespace Go.Proofs.Ytgpcgamhlcihkaa.aluDoes
set_option linter.unusedVariables false
set_option linter.unusedSimpArgs false
open Go.ChangeShapes Go.WideShapes Go.ChangeAt Go.RowKit
open Go.ChangeMaps (open_string shut_string)
theorem own : ownKnob Try.prog.godebug = none := by kernel_rfl
theorem laidOut : laidOutB Try.prog = true := by kernel_rfl
theorem z3 : Try.prog.cellsOf 3 = 1 := by kernel_rfl
theorem z4 : Try.prog.cellsOf 4 = 1 := by kernel_rfl
theorem z24 : Try.prog.cellsOf 24 = 1 := by kernel_rfl
theorem z26 : Try.prog.cellsOf 26 = 4 := by kernel_rfl
theorem z32 : Try.prog.cellsOf 32 = 8 := by kernel_rfl
set_option maxRecDepth 100000 in
set_option maxHeartbeats 4000000 in
theorem open_t32 {H : Type} {enc : TypeId × Value → H} {W : World} {base : Nat} {v : Value} {d : DataW H} {p : List MemPlace} (hv : Value.okWide Try.prog W .any base 32 v) (h : DataW.Trod enc Try.prog W 0 (fun _ => true) true 32 v d p) :
    ∃ (a0 : Int) (a1 : Int) (a2 : Int) (a3 : Bool) (a4 : Bool) (a5 : Bool) (a6 : Bool) (a7 : Bool), v = .agg #[.int .i64 a0, .int .u32 a1, .int .u32 a2, .bool a3, .bool a4, .bool a5, .bool a6, .bool a7] ∧ (Lit.int .i64 a0).wf = true ∧ (Lit.int .u32 a1).wf = true ∧ (Lit.int .u32 a2).wf = true := by
  obtain ⟨cs, rfl, hsz⟩ := okWide_struct Try.underlying32 hv
  obtain ⟨l⟩ := cs
  match l, hsz.trans z32 with
  | [c0, c1, c2, c3, c4, c5, c6, c7], _ =>
    obtain ⟨fuel, hf⟩ := h
    simp only [Value.cells] at hf
    obtain ⟨xs1, n1, _, _, _, hl1, hg1⟩ := DataW.trod_struct Try.underlying32 hf
    have g1_0 : DataW.trod enc Try.prog W 0 (fun _ => true) true n1 3 ((([c0, c1, c2, c3, c4, c5, c6, c7] : List Value).drop 0).take (Try.prog.cellsOf 3)) = xs1[0]? := hg1 0 _ rfl
    have g1_1 : DataW.trod enc Try.prog W 0 (fun _ => true) true n1 24 ((([c0, c1, c2, c3, c4, c5, c6, c7] : List Value).drop 1).take (Try.prog.cellsOf 24)) = xs1[1]? := hg1 1 _ rfl
    have g1_2 : DataW.trod enc Try.prog W 0 (fun _ => true) true n1 24 ((([c0, c1, c2, c3, c4, c5, c6, c7] : List Value).drop 2).take (Try.prog.cellsOf 24)) = xs1[2]? := hg1 2 _ rfl
    have g1_3 : DataW.trod enc Try.prog W 0 (fun _ => true) true n1 26 ((([c0, c1, c2, c3, c4, c5, c6, c7] : List Value).drop 3).take (Try.prog.cellsOf 26)) = xs1[3]? := hg1 3 _ rfl
    have g1_4 : DataW.trod enc Try.prog W 0 (fun _ => true) true n1 4 ((([c0, c1, c2, c3, c4, c5, c6, c7] : List Value).drop 7).take (Try.prog.cellsOf 4)) = xs1[4]? := hg1 4 _ rfl
    replace hl1 : xs1.length = 5 := hl1
    rw [List.getElem?_eq_getElem (by omega)] at g1_0
    simp only [z3, z4, z24, z26, z32, Nat.reduceMul, List.drop_succ_cons, List.drop_zero, List.take_succ_cons, List.take_zero] at g1_0
    obtain ⟨a0, e0, _, w0⟩ := DataW.trod_int Try.underlying3 g1_0
    obtain rfl : c0 = .int .i64 a0 := by simpa using e0
    rw [List.getElem?_eq_getElem (by omega)] at g1_1
    simp only [z3, z4, z24, z26, z32, Nat.reduceMul, List.drop_succ_cons, List.drop_zero, List.take_succ_cons, List.take_zero] at g1_1
    obtain ⟨a1, e1, _, w1⟩ := DataW.trod_int Try.underlying24 g1_1
    obtain rfl : c1 = .int .u32 a1 := by simpa using e1
    rw [List.getElem?_eq_getElem (by omega)] at g1_2
    simp only [z3, z4, z24, z26, z32, Nat.reduceMul, List.drop_succ_cons, List.drop_zero, List.take_succ_cons, List.take_zero] at g1_2
    obtain ⟨a2, e2, _, w2⟩ := DataW.trod_int Try.underlying24 g1_2
    obtain rfl : c2 = .int .u32 a2 := by simpa using e2
    rw [List.getElem?_eq_getElem (by omega)] at g1_3
    simp only [z3, z4, z24, z26, z32, Nat.reduceMul, List.drop_succ_cons, List.drop_zero, List.take_succ_cons, List.take_zero] at g1_3
    obtain ⟨xs2, n2, _, _, _, hl2, hg2⟩ := DataW.trod_struct Try.underlying26 g1_3
    have g2_0 : DataW.trod enc Try.prog W 0 (fun _ => true) true n2 4 ((([c3, c4, c5, c6] : List Value).drop 0).take (Try.prog.cellsOf 4)) = xs2[0]? := hg2 0 _ rfl
    have g2_1 : DataW.trod enc Try.prog W 0 (fun _ => true) true n2 4 ((([c3, c4, c5, c6] : List Value).drop 1).take (Try.prog.cellsOf 4)) = xs2[1]? := hg2 1 _ rfl
    have g2_2 : DataW.trod enc Try.prog W 0 (fun _ => true) true n2 4 ((([c3, c4, c5, c6] : List Value).drop 2).take (Try.prog.cellsOf 4)) = xs2[2]? := hg2 2 _ rfl
    have g2_3 : DataW.trod enc Try.prog W 0 (fun _ => true) true n2 4 ((([c3, c4, c5, c6] : List Value).drop 3).take (Try.prog.cellsOf 4)) = xs2[3]? := hg2 3 _ rfl
    replace hl2 : xs2.length = 4 := hl2
    rw [List.getElem?_eq_getElem (by omega)] at g2_0
    simp only [z3, z4, z24, z26, z32, Nat.reduceMul, List.drop_succ_cons, List.drop_zero, List.take_succ_cons, List.take_zero] at g2_0
    obtain ⟨a3, e3, _⟩ := DataW.trod_bool Try.underlying4 g2_0
    obtain rfl : c3 = .bool a3 := by simpa using e3
    rw [List.getElem?_eq_getElem (by omega)] at g2_1
    simp only [z3, z4, z24, z26, z32, Nat.reduceMul, List.drop_succ_cons, List.drop_zero, List.take_succ_cons, List.take_zero] at g2_1
    obtain ⟨a4, e4, _⟩ := DataW.trod_bool Try.underlying4 g2_1
    obtain rfl : c4 = .bool a4 := by simpa using e4
    rw [List.getElem?_eq_getElem (by omega)] at g2_2
    simp only [z3, z4, z24, z26, z32, Nat.reduceMul, List.drop_succ_cons, List.drop_zero, List.take_succ_cons, List.take_zero] at g2_2
    obtain ⟨a5, e5, _⟩ := DataW.trod_bool Try.underlying4 g2_2
    obtain rfl : c5 = .bool a5 := by simpa using e5
    rw [List.getElem?_eq_getElem (by omega)] at g2_3
    simp only [z3, z4, z24, z26, z32, Nat.reduceMul, List.drop_succ_cons, List.drop_zero, List.take_succ_cons, List.take_zero] at g2_3
    obtain ⟨a6, e6, _⟩ := DataW.trod_bool Try.underlying4 g2_3
    obtain rfl : c6 = .bool a6 := by simpa using e6
    rw [List.getElem?_eq_getElem (by omega)] at g1_4
    simp only [z3, z4, z24, z26, z32, Nat.reduceMul, List.drop_succ_cons, List.drop_zero, List.take_succ_cons, List.take_zero] at g1_4
    obtain ⟨a7, e7, _⟩ := DataW.trod_bool Try.underlying4 g1_4
    obtain rfl : c7 = .bool a7 := by simpa using e7
    exact ⟨a0, a1, a2, a3, a4, a5, a6, a7, rfl, w0, w1, w2⟩
set_option maxRecDepth 100000 in
theorem lifted (os : Os) (started : os.Started) (H : Type) (enc : TypeId × Value → H) :
    ReturnsInHanded {} Try.checked os 4 .any (Rows.aluDoesSpec.pre6 enc Try.prog Try.f4 Rows.aluDoesRow.domain false) (Rows.aluDoesSpec.post enc Try.prog Try.f4 false true false false) := by
  refine returnsInHanded_of_change_sized (C := Try.checked) own started (by kernel_rfl) Try.func4
    (ChangeSpec.witness6 (enc := enc) (C := Try.checked) false ⟨#[], #[.agg #[.int .i64 0, .int .u32 0, .int .u32 0, .bool false, .bool false, .bool false, .bool false, .bool false]], []⟩ 8 (by kernel_rfl) (by kernel_rfl) (by kernel_rfl) (by kernel_rfl)) ?_
  intro W base args ds gs before hval0 hW hcnd hsz0 _
  have hval : ∀ (j : Nat) t v, Try.f4.params[j]? = some t → args[j]? = some v → Value.okWide Try.prog W .any base t v := hval0
  have hW' := hW
  obtain ⟨p, q, hA0, hV, rfl, hfz, hnd⟩ := hW
  have hA : DataW.TrodAll enc Try.prog W 0 (fun _ => true) true Try.f4.params.toList args.toList ds p := hA0
  rw [Try.params4] at hA hval
  obtain ⟨v0, vs0, d0, ds0, p0, q0, hargs, rfl, rfl, h0, r0⟩ := trodAll_cons hA
  obtain ⟨rfl, rfl, rfl⟩ := trodAll_nil r0
  obtain rfl : args = #[v0] := by cases args; simp_all
  obtain ⟨rfl, rfl⟩ := trodVars_none hV
  have k0 := h0
  have lt0 : ∀ x ∈ p0, x.block < W.heap.size := by obtain ⟨m, hm⟩ := k0; exact DataW.trod_lt m _ _ _ hm
  obtain ⟨b0_0, b0_1, b0_2, b0_3, b0_4, b0_5, b0_6, b0_7, rfl, w0_0, w0_1, w0_2⟩ := open_t32 (hval 0 32 v0 rfl rfl) h0
  clear hA0 hval0 hsz0
  refine (Aw.does_law b0_0 b0_1 b0_2 b0_3 b0_4 b0_5 b0_6 b0_7 w0_0 w0_1 w0_2 W).mono fun e W' ⟨he, bel⟩ => ?_
  subst he
  exact ⟨_, rfl, _, _, _, [], _, [], hW', trodAll_mk1 (shut_bool Try.underlying4 _), (trodAll_cons_mk (Below.trod laidOut (by kernel_rfl) (of_decide_eq_true (by kernel_rfl)) k0 bel lt0) trodAll_mk0), rfl, bel.frame _, fun h => by cases h⟩
theorem over : Rows.aluDoesRow.holds Try.pinned (OpenSpec.ofChange Rows.aluDoesSpec) :=
  OpenClaim.holds_of_wide 4 Try.f4 rfl rfl rfl rfl rfl rfl rfl ⟨rfl, rfl, rfl, rfl, rfl⟩ rfl rfl rfl rfl rfl (by kernel_rfl) Try.func4 (by kernel_rfl)
    (of_decide_eq_true (by kernel_rfl)) (by unfold Func.isWrapper; first | (rw [if_pos (by decide +kernel)]; kernel_rfl) | (rw [if_neg (by decide +kernel)]; exact ⟨rfl, rfl⟩))
    (fun os started H enc _ => lifted os started H enc)
theorem proved : Rows.AluDoesSaid := over
end Go.Proofs.Ytgpcgamhlcihkaa.aluDoes
namespace Go.Proofs.Ytgpcgamhlcihkaa
theorem aluDoes_holds : Rows.AluDoesSaid := aluDoes.proved
#print axioms aluDoes_holds
end Go.Proofs.Ytgpcgamhlcihkaa
