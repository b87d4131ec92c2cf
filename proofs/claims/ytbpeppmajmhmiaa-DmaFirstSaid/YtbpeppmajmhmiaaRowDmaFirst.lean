/- DmaFirst: the row of the statement, out of its walk. It holds for every input. -/
import Derived.Test.YtbpeppmajmhmiaaRows
import Derived.Test.YtbpeppmajmhmiaaWk
import Derived.Test.YtbpeppmajmhmiaaWg
import Derived.WalkKit
import Derived.ProofKit
import Derived.OpenShut
import Derived.ShutString
import Derived.ChangeOld
import Derived.Below
import Derived.SizedLaws
import Derived.Carry
import Derived.Deep.Slices
namespace Go.Proofs.Ytbpeppmajmhmiaa.dmaFirst
set_option linter.unusedVariables false
set_option linter.unusedSimpArgs false
open Go.ChangeShapes Go.WideShapes Go.ChangeAt Go.RowKit Go.Proofs.Ytbpeppmajmhmiaa.Wk
open Go.ChangeMaps (open_string shut_string)
theorem own : ownKnob Try.prog.godebug = none := by kernel_rfl
theorem laidOut : laidOutB Try.prog = true := by kernel_rfl
theorem z3 : Try.prog.cellsOf 3 = 1 := by kernel_rfl
theorem z31 : Try.prog.cellsOf 31 = 1 := by kernel_rfl
theorem z34 : Try.prog.cellsOf 34 = 1 := by kernel_rfl
theorem z52 : Try.prog.cellsOf 52 = 6 := by kernel_rfl
set_option maxRecDepth 100000 in
set_option maxHeartbeats 4000000 in
theorem elt52 {H : Type} {enc : TypeId × Value → H} {W : World} {k : Nat} {cs : List Value} {x : DataW H × List MemPlace} (hl : cs.length = 6) (hf : DataW.trod enc Try.prog W 0 (fun _ => true) true k 52 cs = some x) :
    ∃ (b0 : Int) (b1 : Int) (b2 : Int) (b3 : Int) (b4 : Int) (b5 : Int), cs = [.int .i64 b0, .int .i64 b1, .int .i64 b2, .int .u16 b3, .int .i64 b4, .int .u32 b5] ∧ (Lit.int .i64 b0).wf = true ∧ (Lit.int .i64 b1).wf = true ∧ (Lit.int .i64 b2).wf = true ∧ (Lit.int .u16 b3).wf = true ∧ (Lit.int .i64 b4).wf = true ∧ (Lit.int .u32 b5).wf = true := by
  match cs, hl with
  | [c0, c1, c2, c3, c4, c5], _ =>
    obtain ⟨xs1, n1, _, _, _, hl1, hg1⟩ := DataW.trod_struct Try.underlying52 hf
    have g1_0 : DataW.trod enc Try.prog W 0 (fun _ => true) true n1 3 ((([c0, c1, c2, c3, c4, c5] : List Value).drop 0).take (Try.prog.cellsOf 3)) = xs1[0]? := hg1 0 _ rfl
    have g1_1 : DataW.trod enc Try.prog W 0 (fun _ => true) true n1 3 ((([c0, c1, c2, c3, c4, c5] : List Value).drop 1).take (Try.prog.cellsOf 3)) = xs1[1]? := hg1 1 _ rfl
    have g1_2 : DataW.trod enc Try.prog W 0 (fun _ => true) true n1 3 ((([c0, c1, c2, c3, c4, c5] : List Value).drop 2).take (Try.prog.cellsOf 3)) = xs1[2]? := hg1 2 _ rfl
    have g1_3 : DataW.trod enc Try.prog W 0 (fun _ => true) true n1 31 ((([c0, c1, c2, c3, c4, c5] : List Value).drop 3).take (Try.prog.cellsOf 31)) = xs1[3]? := hg1 3 _ rfl
    have g1_4 : DataW.trod enc Try.prog W 0 (fun _ => true) true n1 3 ((([c0, c1, c2, c3, c4, c5] : List Value).drop 4).take (Try.prog.cellsOf 3)) = xs1[4]? := hg1 4 _ rfl
    have g1_5 : DataW.trod enc Try.prog W 0 (fun _ => true) true n1 34 ((([c0, c1, c2, c3, c4, c5] : List Value).drop 5).take (Try.prog.cellsOf 34)) = xs1[5]? := hg1 5 _ rfl
    replace hl1 : xs1.length = 6 := hl1
    rw [List.getElem?_eq_getElem (by omega)] at g1_0
    simp only [z3, z31, z34, z52, Nat.reduceMul, List.drop_succ_cons, List.drop_zero, List.take_succ_cons, List.take_zero] at g1_0
    obtain ⟨ac0, ec0, _, wc0⟩ := DataW.trod_int Try.underlying3 g1_0
    obtain rfl : c0 = .int .i64 ac0 := by simpa using ec0
    rw [List.getElem?_eq_getElem (by omega)] at g1_1
    simp only [z3, z31, z34, z52, Nat.reduceMul, List.drop_succ_cons, List.drop_zero, List.take_succ_cons, List.take_zero] at g1_1
    obtain ⟨ac1, ec1, _, wc1⟩ := DataW.trod_int Try.underlying3 g1_1
    obtain rfl : c1 = .int .i64 ac1 := by simpa using ec1
    rw [List.getElem?_eq_getElem (by omega)] at g1_2
    simp only [z3, z31, z34, z52, Nat.reduceMul, List.drop_succ_cons, List.drop_zero, List.take_succ_cons, List.take_zero] at g1_2
    obtain ⟨ac2, ec2, _, wc2⟩ := DataW.trod_int Try.underlying3 g1_2
    obtain rfl : c2 = .int .i64 ac2 := by simpa using ec2
    rw [List.getElem?_eq_getElem (by omega)] at g1_3
    simp only [z3, z31, z34, z52, Nat.reduceMul, List.drop_succ_cons, List.drop_zero, List.take_succ_cons, List.take_zero] at g1_3
    obtain ⟨ac3, ec3, _, wc3⟩ := DataW.trod_int Try.underlying31 g1_3
    obtain rfl : c3 = .int .u16 ac3 := by simpa using ec3
    rw [List.getElem?_eq_getElem (by omega)] at g1_4
    simp only [z3, z31, z34, z52, Nat.reduceMul, List.drop_succ_cons, List.drop_zero, List.take_succ_cons, List.take_zero] at g1_4
    obtain ⟨ac4, ec4, _, wc4⟩ := DataW.trod_int Try.underlying3 g1_4
    obtain rfl : c4 = .int .i64 ac4 := by simpa using ec4
    rw [List.getElem?_eq_getElem (by omega)] at g1_5
    simp only [z3, z31, z34, z52, Nat.reduceMul, List.drop_succ_cons, List.drop_zero, List.take_succ_cons, List.take_zero] at g1_5
    obtain ⟨ac5, ec5, _, wc5⟩ := DataW.trod_int Try.underlying34 g1_5
    obtain rfl : c5 = .int .u32 ac5 := by simpa using ec5
    exact ⟨ac0, ac1, ac2, ac3, ac4, ac5, rfl, wc0, wc1, wc2, wc3, wc4, wc5⟩
set_option maxHeartbeats 4000000 in
theorem sl44 {H : Type} {enc : TypeId × Value → H} {W : World} {k : Nat} {cs : List Value} {x : DataW H × List MemPlace} (hf : DataW.trod enc Try.prog W 0 (fun _ => true) true k 44 cs = some x) :
    ∃ (A : Option Addr) (n : Nat) (cap : Nat) (f0 : (Nat → Int)) (f1 : (Nat → Int)) (f2 : (Nat → Int)) (f3 : (Nat → Int)) (f4 : (Nat → Int)) (f5 : (Nat → Int)), cs = [.slice A n cap] ∧ n ≤ cap ∧ cap ≤ maxLen ∧ Elts W A n 6 (fun i => [.int .i64 (f0 i), .int .i64 (f1 i), .int .i64 (f2 i), .int .u16 (f3 i), .int .i64 (f4 i), .int .u32 (f5 i)]) ∧ (∀ i, i < n → (Lit.int .i64 (f0 i)).wf = true ∧ (Lit.int .i64 (f1 i)).wf = true ∧ (Lit.int .i64 (f2 i)).wf = true ∧ (Lit.int .u16 (f3 i)).wf = true ∧ (Lit.int .i64 (f4 i)).wf = true ∧ (Lit.int .u32 (f5 i)).wf = true ∧ True) := by
  rcases Go.Deep.open_slice Try.underlying44 hf with ⟨rfl, _⟩ | ⟨a, len, cap, m, fu, D, Pl, rfl, hb, hl, hm, hmm, hx, hi⟩
  · exact ⟨none, 0, 0, (fun _ => 0), (fun _ => 0), (fun _ => 0), (fun _ => 0), (fun _ => 0), (fun _ => 0), rfl, Nat.le_refl _, Nat.zero_le _, fun i h => absurd h (Nat.not_lt_zero _), fun i h => absurd h (Nat.not_lt_zero _)⟩
  · have hmc : m = cap := by simpa using hmm
    have Q : ∀ i : Nat, ∃ (b0 : Int) (b1 : Int) (b2 : Int) (b3 : Int) (b4 : Int) (b5 : Int), i < len → (∃ cs', W.cells? 0 (a.add (i * 6)) 6 = some cs' ∧ cs' = [.int .i64 b0, .int .i64 b1, .int .i64 b2, .int .u16 b3, .int .i64 b4, .int .u32 b5]) ∧ (Lit.int .i64 b0).wf = true ∧ (Lit.int .i64 b1).wf = true ∧ (Lit.int .i64 b2).wf = true ∧ (Lit.int .u16 b3).wf = true ∧ (Lit.int .i64 b4).wf = true ∧ (Lit.int .u32 b5).wf = true ∧ True := by
      intro i
      by_cases h : i < len
      · obtain ⟨cs', hc, ht⟩ := hi i (by omega)
        rw [z52] at hc
        obtain ⟨_, hcl, hat⟩ := World.cells?_some hc
        obtain ⟨b0, b1, b2, b3, b4, b5, e0, u0, u1, u2, u3, u4, u5⟩ := elt52 hcl ht
        exact ⟨b0, b1, b2, b3, b4, b5, fun _ => ⟨⟨cs', hc, e0⟩, u0, u1, u2, u3, u4, u5, trivial⟩⟩
      · exact ⟨0, 0, 0, 0, 0, 0, fun h' => absurd h' h⟩
    obtain ⟨f0, Q⟩ := Classical.skolem.1 Q
    obtain ⟨f1, Q⟩ := Classical.skolem.1 Q
    obtain ⟨f2, Q⟩ := Classical.skolem.1 Q
    obtain ⟨f3, Q⟩ := Classical.skolem.1 Q
    obtain ⟨f4, Q⟩ := Classical.skolem.1 Q
    obtain ⟨f5, Q⟩ := Classical.skolem.1 Q
    exact ⟨some a, len, cap, f0, f1, f2, f3, f4, f5, rfl, hl, hm, elts_of (by decide) (fun i h => (Q i h).1), fun i h => (Q i h).2⟩
set_option maxRecDepth 100000 in
set_option maxHeartbeats 4000000 in
theorem lifted (os : Os) (started : os.Started) (H : Type) (enc : TypeId × Value → H) :
    ReturnsInHanded {} Try.checked os 6 .any (Rows.dmaFirstSpec.pre6 enc Try.prog Try.f6 Rows.dmaFirstRow.domain false) (Rows.dmaFirstSpec.post enc Try.prog Try.f6 false true false false) := by
  refine returnsInHanded_of_change_sized (C := Try.checked) own started (by kernel_rfl) Try.func6
    (ChangeSpec.witness6 (enc := enc) (C := Try.checked) false ⟨#[], #[.slice none 0 0, .int .i64 0, .int .i64 0], []⟩ 8 (by kernel_rfl) (by kernel_rfl) (by kernel_rfl) (by kernel_rfl)) ?_
  intro W base args ds gs before hval0 hW hcnd hsz0 _
  have hval : ∀ (j : Nat) t v, Try.f6.params[j]? = some t → args[j]? = some v → Value.okWide Try.prog W .any base t v := hval0
  have hW' := hW
  obtain ⟨p, q, hA0, hV, rfl, hfz, hnd⟩ := hW
  have hA : DataW.TrodAll enc Try.prog W 0 (fun _ => true) true Try.f6.params.toList args.toList ds p := hA0
  rw [Try.params6] at hA hval
  obtain ⟨v0, vs0, d0, ds0, p0, q0, hargs, rfl, rfl, h0, r0⟩ := trodAll_cons hA
  obtain ⟨v1, vs1, d1, ds1, p1, q1, rfl, rfl, rfl, h1, r1⟩ := trodAll_cons r0
  obtain ⟨v2, vs2, d2, ds2, p2, q2, rfl, rfl, rfl, h2, r2⟩ := trodAll_cons r1
  obtain ⟨rfl, rfl, rfl⟩ := trodAll_nil r2
  obtain rfl : args = #[v0, v1, v2] := by cases args; simp_all
  obtain ⟨rfl, rfl⟩ := trodVars_none hV
  have k0 := h0
  have lt0 : ∀ x ∈ p0, x.block < W.heap.size := by obtain ⟨m, hm⟩ := k0; exact DataW.trod_lt m _ _ _ hm
  obtain ⟨a0, l0, c0, rfl⟩ := okWide_slice Try.underlying44 (hval 0 44 v0 rfl rfl)
  obtain ⟨fu0, hf0⟩ := h0
  simp only [Value.cells] at hf0
  obtain ⟨b0_0, b0_1, b0_2, b0_3, b0_4, b0_5, b0_6, b0_7, b0_8, e0, w0_0, w0_1, w0_2, w0_3⟩ := sl44 hf0
  have E0 : a0 = b0_0 ∧ l0 = b0_1 ∧ c0 = b0_2 := by simpa using e0
  obtain ⟨rfl, rfl, rfl⟩ : b0_0 = a0 ∧ b0_1 = l0 ∧ b0_2 = c0 := ⟨E0.1.symm, E0.2.1.symm, E0.2.2.symm⟩
  have k1 := h1
  have lt1 : ∀ x ∈ p1, x.block < W.heap.size := by obtain ⟨m, hm⟩ := k1; exact DataW.trod_lt m _ _ _ hm
  obtain ⟨b1, rfl, _, _, w1⟩ := open_int Try.underlying3 (hval 1 3 v1 rfl rfl) h1
  have k2 := h2
  have lt2 : ∀ x ∈ p2, x.block < W.heap.size := by obtain ⟨m, hm⟩ := k2; exact DataW.trod_lt m _ _ _ hm
  obtain ⟨b2, rfl, _, _, w2⟩ := open_int Try.underlying3 (hval 2 3 v2 rfl rfl) h2
  clear hA0 hval0 hsz0
  refine (Wg.first_law b0_0 b0_1 b0_2 b0_3 b0_4 b0_5 b0_6 b0_7 b0_8 b1 b2 W w0_0 w0_1 w0_2 w0_3 w1 w2).mono fun e W' ⟨he, bel⟩ => ?_
  subst he
  exact ⟨_, rfl, _, _, _, [], _, [], hW', trodAll_mk1 (shut_bool Try.underlying4 _), (trodAll_cons_mk (Below.trod laidOut (by kernel_rfl) (of_decide_eq_true (by kernel_rfl)) k0 bel lt0) (trodAll_cons_mk (Below.trod laidOut (by kernel_rfl) (of_decide_eq_true (by kernel_rfl)) k1 bel lt1) (trodAll_cons_mk (Below.trod laidOut (by kernel_rfl) (of_decide_eq_true (by kernel_rfl)) k2 bel lt2) trodAll_mk0))), rfl, bel.frame _, fun h => by cases h⟩
theorem over : Rows.dmaFirstRow.holds Try.pinned (OpenSpec.ofChange Rows.dmaFirstSpec) :=
  OpenClaim.holds_of_wide 6 Try.f6 rfl rfl rfl rfl rfl rfl rfl ⟨rfl, rfl, rfl, rfl, rfl⟩ rfl rfl rfl rfl rfl (by kernel_rfl) Try.func6 (by kernel_rfl)
    (of_decide_eq_true (by kernel_rfl)) (by unfold Func.isWrapper; first | (rw [if_pos (by decide +kernel)]; kernel_rfl) | (rw [if_neg (by decide +kernel)]; exact ⟨rfl, rfl⟩))
    (fun os started H enc _ => lifted os started H enc)
theorem proved : Rows.DmaFirstSaid := over
end Go.Proofs.Ytbpeppmajmhmiaa.dmaFirst
namespace Go.Proofs.Ytbpeppmajmhmiaa
theorem dmaFirst_holds : Rows.DmaFirstSaid := dmaFirst.proved
#print axioms dmaFirst_holds
end Go.Proofs.Ytbpeppmajmhmiaa
