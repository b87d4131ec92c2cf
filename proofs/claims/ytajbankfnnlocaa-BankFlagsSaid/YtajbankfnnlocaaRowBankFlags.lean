/- BankFlags: the row of the statement, out of its walk. It holds for every input. -/
import Derived.Test.YtajbankfnnlocaaRows
import Derived.Test.YtajbankfnnlocaaBl
import Derived.WalkKit
import Derived.ProofKit
import Derived.OpenShut
import Derived.ShutString
import Derived.ChangeOld
import Derived.Below
import Derived.SizedLaws
import Derived.Carry
namespace Go.Proofs.Ytajbankfnnlocaa.bankFlags
set_option linter.unusedVariables false
set_option linter.unusedSimpArgs false
open Go.ChangeShapes Go.WideShapes Go.ChangeAt Go.RowKit
open Go.ChangeMaps (open_string shut_string)
theorem own : ownKnob Try.prog.godebug = none := by kernel_rfl
theorem laidOut : laidOutB Try.prog = true := by kernel_rfl
theorem z4 : Try.prog.cellsOf 4 = 1 := by kernel_rfl
theorem z49 : Try.prog.cellsOf 49 = 4 := by kernel_rfl
set_option maxRecDepth 100000 in
set_option maxHeartbeats 4000000 in
theorem open_t49 {H : Type} {enc : TypeId × Value → H} {W : World} {base : Nat} {v : Value} {d : DataW H} {p : List MemPlace} (hv : Value.okWide Try.prog W .any base 49 v) (h : DataW.Trod enc Try.prog W 0 (fun _ => true) true 49 v d p) :
    ∃ (a0 : Bool) (a1 : Bool) (a2 : Bool) (a3 : Bool), v = .agg #[.bool a0, .bool a1, .bool a2, .bool a3] := by
  obtain ⟨cs, rfl, hsz⟩ := okWide_struct Try.underlying49 hv
  obtain ⟨l⟩ := cs
  match l, hsz.trans z49 with
  | [c0, c1, c2, c3], _ =>
    obtain ⟨fuel, hf⟩ := h
    simp only [Value.cells] at hf
    obtain ⟨xs1, n1, _, _, _, hl1, hg1⟩ := DataW.trod_struct Try.underlying49 hf
    have g1_0 : DataW.trod enc Try.prog W 0 (fun _ => true) true n1 4 ((([c0, c1, c2, c3] : List Value).drop 0).take (Try.prog.cellsOf 4)) = xs1[0]? := hg1 0 _ rfl
    have g1_1 : DataW.trod enc Try.prog W 0 (fun _ => true) true n1 4 ((([c0, c1, c2, c3] : List Value).drop 1).take (Try.prog.cellsOf 4)) = xs1[1]? := hg1 1 _ rfl
    have g1_2 : DataW.trod enc Try.prog W 0 (fun _ => true) true n1 4 ((([c0, c1, c2, c3] : List Value).drop 2).take (Try.prog.cellsOf 4)) = xs1[2]? := hg1 2 _ rfl
    have g1_3 : DataW.trod enc Try.prog W 0 (fun _ => true) true n1 4 ((([c0, c1, c2, c3] : List Value).drop 3).take (Try.prog.cellsOf 4)) = xs1[3]? := hg1 3 _ rfl
    replace hl1 : xs1.length = 4 := hl1
    rw [List.getElem?_eq_getElem (by omega)] at g1_0
    simp only [z4, z49, Nat.reduceMul, List.drop_succ_cons, List.drop_zero, List.take_succ_cons, List.take_zero] at g1_0
    obtain ⟨a0, e0, _⟩ := DataW.trod_bool Try.underlying4 g1_0
    obtain rfl : c0 = .bool a0 := by simpa using e0
    rw [List.getElem?_eq_getElem (by omega)] at g1_1
    simp only [z4, z49, Nat.reduceMul, List.drop_succ_cons, List.drop_zero, List.take_succ_cons, List.take_zero] at g1_1
    obtain ⟨a1, e1, _⟩ := DataW.trod_bool Try.underlying4 g1_1
    obtain rfl : c1 = .bool a1 := by simpa using e1
    rw [List.getElem?_eq_getElem (by omega)] at g1_2
    simp only [z4, z49, Nat.reduceMul, List.drop_succ_cons, List.drop_zero, List.take_succ_cons, List.take_zero] at g1_2
    obtain ⟨a2, e2, _⟩ := DataW.trod_bool Try.underlying4 g1_2
    obtain rfl : c2 = .bool a2 := by simpa using e2
    rw [List.getElem?_eq_getElem (by omega)] at g1_3
    simp only [z4, z49, Nat.reduceMul, List.drop_succ_cons, List.drop_zero, List.take_succ_cons, List.take_zero] at g1_3
    obtain ⟨a3, e3, _⟩ := DataW.trod_bool Try.underlying4 g1_3
    obtain rfl : c3 = .bool a3 := by simpa using e3
    exact ⟨a0, a1, a2, a3, rfl⟩
set_option maxRecDepth 100000 in
theorem lifted (os : Os) (started : os.Started) (H : Type) (enc : TypeId × Value → H) :
    ReturnsInHanded {} Try.checked os 7 .any (Rows.bankFlagsSpec.pre6 enc Try.prog Try.f7 Rows.bankFlagsRow.domain false) (Rows.bankFlagsSpec.post enc Try.prog Try.f7 false true false false) := by
  refine returnsInHanded_of_change_sized (C := Try.checked) own started (by kernel_rfl) Try.func7
    (ChangeSpec.witness6 (enc := enc) (C := Try.checked) false ⟨#[], #[.int .u32 0, .agg #[.bool false, .bool false, .bool false, .bool false]], []⟩ 8 (by kernel_rfl) (by kernel_rfl) (by kernel_rfl) (by kernel_rfl)) ?_
  intro W base args ds gs before hval0 hW hcnd hsz0 _
  have hval : ∀ (j : Nat) t v, Try.f7.params[j]? = some t → args[j]? = some v → Value.okWide Try.prog W .any base t v := hval0
  have hW' := hW
  obtain ⟨p, q, hA0, hV, rfl, hfz, hnd⟩ := hW
  have hA : DataW.TrodAll enc Try.prog W 0 (fun _ => true) true Try.f7.params.toList args.toList ds p := hA0
  rw [Try.params7] at hA hval
  obtain ⟨v0, vs0, d0, ds0, p0, q0, hargs, rfl, rfl, h0, r0⟩ := trodAll_cons hA
  obtain ⟨v1, vs1, d1, ds1, p1, q1, rfl, rfl, rfl, h1, r1⟩ := trodAll_cons r0
  obtain ⟨rfl, rfl, rfl⟩ := trodAll_nil r1
  obtain rfl : args = #[v0, v1] := by cases args; simp_all
  obtain ⟨rfl, rfl⟩ := trodVars_none hV
  have k0 := h0
  have lt0 : ∀ x ∈ p0, x.block < W.heap.size := by obtain ⟨m, hm⟩ := k0; exact DataW.trod_lt m _ _ _ hm
  obtain ⟨b0, rfl, _, _, w0⟩ := open_int Try.underlying22 (hval 0 22 v0 rfl rfl) h0
  have k1 := h1
  have lt1 : ∀ x ∈ p1, x.block < W.heap.size := by obtain ⟨m, hm⟩ := k1; exact DataW.trod_lt m _ _ _ hm
  obtain ⟨b1_0, b1_1, b1_2, b1_3, rfl⟩ := open_t49 (hval 1 49 v1 rfl rfl) h1
  clear hA0 hval0 hsz0
  refine (Bl.flags_law b0 b1_0 b1_1 b1_2 b1_3 w0 W).mono fun e W' ⟨he, bel⟩ => ?_
  subst he
  exact ⟨_, rfl, _, _, _, [], _, [], hW', trodAll_mk1 (shut_bool Try.underlying4 _), (trodAll_cons_mk (Below.trod laidOut (by kernel_rfl) (of_decide_eq_true (by kernel_rfl)) k0 bel lt0) (trodAll_cons_mk (Below.trod laidOut (by kernel_rfl) (of_decide_eq_true (by kernel_rfl)) k1 bel lt1) trodAll_mk0)), rfl, bel.frame _, fun h => by cases h⟩
theorem over : Rows.bankFlagsRow.holds Try.pinned (OpenSpec.ofChange Rows.bankFlagsSpec) :=
  OpenClaim.holds_of_wide 7 Try.f7 rfl rfl rfl rfl rfl rfl rfl ⟨rfl, rfl, rfl, rfl, rfl⟩ rfl rfl rfl rfl rfl (by kernel_rfl) Try.func7 (by kernel_rfl)
    (of_decide_eq_true (by kernel_rfl)) (by unfold Func.isWrapper; first | (rw [if_pos (by decide +kernel)]; kernel_rfl) | (rw [if_neg (by decide +kernel)]; exact ⟨rfl, rfl⟩))
    (fun os started H enc _ => lifted os started H enc)
theorem proved : Rows.BankFlagsSaid := over
end Go.Proofs.Ytajbankfnnlocaa.bankFlags
namespace Go.Proofs.Ytajbankfnnlocaa
theorem bankFlags_holds : Rows.BankFlagsSaid := bankFlags.proved
#print axioms bankFlags_holds
end Go.Proofs.Ytajbankfnnlocaa
