/- SchedTies: the row of the statement, out of its walk. It holds for every input. -/
import Derived.Test.YtkgjikdkidjpjaaRows
import Derived.Test.YtkgjikdkidjpjaaWk
import Derived.Test.YtkgjikdkidjpjaaSm
import Derived.WalkKit
import Derived.ProofKit
import Derived.OpenShut
import Derived.ShutString
import Derived.ChangeOld
import Derived.Below
import Derived.SizedLaws
import Derived.Carry
import Derived.Deep.Slices
namespace Go.Proofs.Ytkgjikdkidjpjaa.schedTies
set_option linter.unusedVariables false
set_option linter.unusedSimpArgs false
open Go.ChangeShapes Go.WideShapes Go.ChangeAt Go.RowKit Go.Proofs.Ytkgjikdkidjpjaa.Wk
open Go.ChangeMaps (open_string shut_string)
theorem own : ownKnob Try.prog.godebug = none := by kernel_rfl
theorem laidOut : laidOutB Try.prog = true := by kernel_rfl
theorem z3 : Try.prog.cellsOf 3 = 1 := by kernel_rfl
set_option maxRecDepth 100000 in
set_option maxHeartbeats 4000000 in
theorem elt3 {H : Type} {enc : TypeId × Value → H} {W : World} {k : Nat} {cs : List Value} {x : DataW H × List MemPlace} (hl : cs.length = 1) (hf : DataW.trod enc Try.prog W 0 (fun _ => true) true k 3 cs = some x) :
    ∃ (b0 : Int), cs = [.int .i64 b0] ∧ (Lit.int .i64 b0).wf = true := by
  match cs, hl with
  | [c0], _ =>
    obtain ⟨ac0, ec0, _, wc0⟩ := DataW.trod_int Try.underlying3 hf
    obtain rfl : c0 = .int .i64 ac0 := by simpa using ec0
    exact ⟨ac0, rfl, wc0⟩
set_option maxHeartbeats 4000000 in
theorem sl32 {H : Type} {enc : TypeId × Value → H} {W : World} {k : Nat} {cs : List Value} {x : DataW H × List MemPlace} (hf : DataW.trod enc Try.prog W 0 (fun _ => true) true k 32 cs = some x) :
    ∃ (A : Option Addr) (n : Nat) (cap : Nat) (f0 : (Nat → Int)), cs = [.slice A n cap] ∧ n ≤ cap ∧ cap ≤ maxLen ∧ Elts W A n 1 (fun i => [.int .i64 (f0 i)]) ∧ (∀ i, i < n → (Lit.int .i64 (f0 i)).wf = true ∧ True) := by
  rcases Go.Deep.open_slice Try.underlying32 hf with ⟨rfl, _⟩ | ⟨a, len, cap, m, fu, D, Pl, rfl, hb, hl, hm, hmm, hx, hi⟩
  · exact ⟨none, 0, 0, (fun _ => 0), rfl, Nat.le_refl _, Nat.zero_le _, fun i h => absurd h (Nat.not_lt_zero _), fun i h => absurd h (Nat.not_lt_zero _)⟩
  · have hmc : m = cap := by simpa using hmm
    have Q : ∀ i : Nat, ∃ (b0 : Int), i < len → (∃ cs', W.cells? 0 (a.add (i * 1)) 1 = some cs' ∧ cs' = [.int .i64 b0]) ∧ (Lit.int .i64 b0).wf = true ∧ True := by
      intro i
      by_cases h : i < len
      · obtain ⟨cs', hc, ht⟩ := hi i (by omega)
        rw [z3] at hc
        obtain ⟨_, hcl, hat⟩ := World.cells?_some hc
        obtain ⟨b0, e0, u0⟩ := elt3 hcl ht
        exact ⟨b0, fun _ => ⟨⟨cs', hc, e0⟩, u0, trivial⟩⟩
      · exact ⟨0, fun h' => absurd h' h⟩
    obtain ⟨f0, Q⟩ := Classical.skolem.1 Q
    exact ⟨some a, len, cap, f0, rfl, hl, hm, elts_of (by decide) (fun i h => (Q i h).1), fun i h => (Q i h).2⟩
set_option maxRecDepth 100000 in
set_option maxHeartbeats 4000000 in
theorem lifted (os : Os) (started : os.Started) (H : Type) (enc : TypeId × Value → H) :
    ReturnsInHanded {} Try.checked os 4 .any (Rows.schedTiesSpec.pre6 enc Try.prog Try.f4 Rows.schedTiesRow.domain false) (Rows.schedTiesSpec.post enc Try.prog Try.f4 false true false false) := by
  refine returnsInHanded_of_change_sized (C := Try.checked) own started (by kernel_rfl) Try.func4
    (ChangeSpec.witness6 (enc := enc) (C := Try.checked) false ⟨#[], #[.slice none 0 0, .int .i64 0], []⟩ 8 (by kernel_rfl) (by kernel_rfl) (by kernel_rfl) (by kernel_rfl)) ?_
  intro W base args ds gs before hval0 hW hcnd hsz0 _
  have hval : ∀ (j : Nat) t v, Try.f4.params[j]? = some t → args[j]? = some v → Value.okWide Try.prog W .any base t v := hval0
  have hW' := hW
  obtain ⟨p, q, hA0, hV, rfl, hfz, hnd⟩ := hW
  have hA : DataW.TrodAll enc Try.prog W 0 (fun _ => true) true Try.f4.params.toList args.toList ds p := hA0
  rw [Try.params4] at hA hval
  obtain ⟨v0, vs0, d0, ds0, p0, q0, hargs, rfl, rfl, h0, r0⟩ := trodAll_cons hA
  obtain ⟨v1, vs1, d1, ds1, p1, q1, rfl, rfl, rfl, h1, r1⟩ := trodAll_cons r0
  obtain ⟨rfl, rfl, rfl⟩ := trodAll_nil r1
  obtain rfl : args = #[v0, v1] := by cases args; simp_all
  obtain ⟨rfl, rfl⟩ := trodVars_none hV
  have k0 := h0
  have lt0 : ∀ x ∈ p0, x.block < W.heap.size := by obtain ⟨m, hm⟩ := k0; exact DataW.trod_lt m _ _ _ hm
  obtain ⟨a0, l0, c0, rfl⟩ := okWide_slice Try.underlying32 (hval 0 32 v0 rfl rfl)
  obtain ⟨fu0, hf0⟩ := h0
  simp only [Value.cells] at hf0
  obtain ⟨b0_0, b0_1, b0_2, b0_3, e0, w0_0, w0_1, w0_2, w0_3⟩ := sl32 hf0
  have E0 : a0 = b0_0 ∧ l0 = b0_1 ∧ c0 = b0_2 := by simpa using e0
  obtain ⟨rfl, rfl, rfl⟩ : b0_0 = a0 ∧ b0_1 = l0 ∧ b0_2 = c0 := ⟨E0.1.symm, E0.2.1.symm, E0.2.2.symm⟩
  have k1 := h1
  have lt1 : ∀ x ∈ p1, x.block < W.heap.size := by obtain ⟨m, hm⟩ := k1; exact DataW.trod_lt m _ _ _ hm
  obtain ⟨b1, rfl, _, _, w1⟩ := open_int Try.underlying3 (hval 1 3 v1 rfl rfl) h1
  clear hA0 hval0 hsz0
  refine (Sm.ties_law b0_0 b0_1 b0_2 b0_3 b1 W w0_0 w0_1 w0_2 w0_3 w1).mono fun e W' ⟨he, bel⟩ => ?_
  subst he
  exact ⟨_, rfl, _, _, _, [], _, [], hW', trodAll_mk1 (shut_bool Try.underlying4 _), (trodAll_cons_mk (Below.trod laidOut (by kernel_rfl) (of_decide_eq_true (by kernel_rfl)) k0 bel lt0) (trodAll_cons_mk (Below.trod laidOut (by kernel_rfl) (of_decide_eq_true (by kernel_rfl)) k1 bel lt1) trodAll_mk0)), rfl, bel.frame _, fun h => by cases h⟩
theorem over : Rows.schedTiesRow.holds Try.pinned (OpenSpec.ofChange Rows.schedTiesSpec) :=
  OpenClaim.holds_of_wide 4 Try.f4 rfl rfl rfl rfl rfl rfl rfl ⟨rfl, rfl, rfl, rfl, rfl⟩ rfl rfl rfl rfl rfl (by kernel_rfl) Try.func4 (by kernel_rfl)
    (of_decide_eq_true (by kernel_rfl)) (by unfold Func.isWrapper; first | (rw [if_pos (by decide +kernel)]; kernel_rfl) | (rw [if_neg (by decide +kernel)]; exact ⟨rfl, rfl⟩))
    (fun os started H enc _ => lifted os started H enc)
theorem proved : Rows.SchedTiesSaid := over
end Go.Proofs.Ytkgjikdkidjpjaa.schedTies
namespace Go.Proofs.Ytkgjikdkidjpjaa
theorem schedTies_holds : Rows.SchedTiesSaid := schedTies.proved
#print axioms schedTies_holds
end Go.Proofs.Ytkgjikdkidjpjaa
