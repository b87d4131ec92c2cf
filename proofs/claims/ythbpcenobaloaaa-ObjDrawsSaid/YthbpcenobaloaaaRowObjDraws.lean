/- ObjDraws: the row of the statement, out of its walk. It holds for every input. -/
import Derived.Test.YthbpcenobaloaaaRows
import Derived.Test.YthbpcenobaloaaaWk
import Derived.Test.YthbpcenobaloaaaOe
import Derived.WalkKit
import Derived.ProofKit
import Derived.OpenShut
import Derived.ShutString
import Derived.ChangeOld
import Derived.Below
import Derived.SizedLaws
import Derived.Carry
import Derived.Deep.Slices
namespace Go.Proofs.Ythbpcenobaloaaa.objDraws
set_option linter.unusedVariables false
set_option linter.unusedSimpArgs false
open Go.ChangeShapes Go.WideShapes Go.ChangeAt Go.RowKit Go.Proofs.Ythbpcenobaloaaa.Wk
open Go.ChangeMaps (open_string shut_string)
theorem own : ownKnob Try.prog.godebug = none := by kernel_rfl
theorem laidOut : laidOutB Try.prog = true := by kernel_rfl
theorem z5 : Try.prog.cellsOf 5 = 1 := by kernel_rfl
set_option maxRecDepth 100000 in
set_option maxHeartbeats 4000000 in
theorem elt5 {H : Type} {enc : TypeId × Value → H} {W : World} {k : Nat} {cs : List Value} {x : DataW H × List MemPlace} (hl : cs.length = 1) (hf : DataW.trod enc Try.prog W 0 (fun _ => true) true k 5 cs = some x) :
    ∃ (b0 : Int), cs = [.int .u8 b0] ∧ (Lit.int .u8 b0).wf = true := by
  match cs, hl with
  | [c0], _ =>
    obtain ⟨ac0, ec0, _, wc0⟩ := DataW.trod_int Try.underlying5 hf
    obtain rfl : c0 = .int .u8 ac0 := by simpa using ec0
    exact ⟨ac0, rfl, wc0⟩
set_option maxHeartbeats 4000000 in
theorem sl29 {H : Type} {enc : TypeId × Value → H} {W : World} {k : Nat} {cs : List Value} {x : DataW H × List MemPlace} (hf : DataW.trod enc Try.prog W 0 (fun _ => true) true k 29 cs = some x) :
    ∃ (A : Option Addr) (n : Nat) (cap : Nat) (f0 : (Nat → Int)), cs = [.slice A n cap] ∧ n ≤ cap ∧ cap ≤ maxLen ∧ Elts W A n 1 (fun i => [.int .u8 (f0 i)]) ∧ (∀ i, i < n → (Lit.int .u8 (f0 i)).wf = true ∧ True) := by
  rcases Go.Deep.open_slice Try.underlying29 hf with ⟨rfl, _⟩ | ⟨a, len, cap, m, fu, D, Pl, rfl, hb, hl, hm, hmm, hx, hi⟩
  · exact ⟨none, 0, 0, (fun _ => 0), rfl, Nat.le_refl _, Nat.zero_le _, fun i h => absurd h (Nat.not_lt_zero _), fun i h => absurd h (Nat.not_lt_zero _)⟩
  · have hmc : m = cap := by simpa using hmm
    have Q : ∀ i : Nat, ∃ (b0 : Int), i < len → (∃ cs', W.cells? 0 (a.add (i * 1)) 1 = some cs' ∧ cs' = [.int .u8 b0]) ∧ (Lit.int .u8 b0).wf = true ∧ True := by
      intro i
      by_cases h : i < len
      · obtain ⟨cs', hc, ht⟩ := hi i (by omega)
        rw [z5] at hc
        obtain ⟨_, hcl, hat⟩ := World.cells?_some hc
        obtain ⟨b0, e0, u0⟩ := elt5 hcl ht
        exact ⟨b0, fun _ => ⟨⟨cs', hc, e0⟩, u0, trivial⟩⟩
      · exact ⟨0, fun h' => absurd h' h⟩
    obtain ⟨f0, Q⟩ := Classical.skolem.1 Q
    exact ⟨some a, len, cap, f0, rfl, hl, hm, elts_of (by decide) (fun i h => (Q i h).1), fun i h => (Q i h).2⟩
theorem z22 : Try.prog.cellsOf 22 = 1 := by kernel_rfl
theorem z43 : Try.prog.cellsOf 43 = 3 := by kernel_rfl
set_option maxRecDepth 100000 in
set_option maxHeartbeats 4000000 in
theorem elt43 {H : Type} {enc : TypeId × Value → H} {W : World} {k : Nat} {cs : List Value} {x : DataW H × List MemPlace} (hl : cs.length = 3) (hf : DataW.trod enc Try.prog W 0 (fun _ => true) true k 43 cs = some x) :
    ∃ (b0 : Int) (b1 : Int) (b2 : Int), cs = [.int .u16 b0, .int .u16 b1, .int .u16 b2] ∧ (Lit.int .u16 b0).wf = true ∧ (Lit.int .u16 b1).wf = true ∧ (Lit.int .u16 b2).wf = true := by
  match cs, hl with
  | [c0, c1, c2], _ =>
    obtain ⟨xs1, n1, _, _, _, hl1, hg1⟩ := DataW.trod_array Try.underlying43 hf
    have g1_0 : DataW.trod enc Try.prog W 0 (fun _ => true) true n1 22 ((([c0, c1, c2] : List Value).drop (0 * Try.prog.cellsOf 22)).take (Try.prog.cellsOf 22)) = xs1[0]? := hg1 0 (by decide)
    have g1_1 : DataW.trod enc Try.prog W 0 (fun _ => true) true n1 22 ((([c0, c1, c2] : List Value).drop (1 * Try.prog.cellsOf 22)).take (Try.prog.cellsOf 22)) = xs1[1]? := hg1 1 (by decide)
    have g1_2 : DataW.trod enc Try.prog W 0 (fun _ => true) true n1 22 ((([c0, c1, c2] : List Value).drop (2 * Try.prog.cellsOf 22)).take (Try.prog.cellsOf 22)) = xs1[2]? := hg1 2 (by decide)
    replace hl1 : xs1.length = 3 := hl1
    rw [List.getElem?_eq_getElem (by omega)] at g1_0
    simp only [z22, z43, Nat.reduceMul, List.drop_succ_cons, List.drop_zero, List.take_succ_cons, List.take_zero] at g1_0
    obtain ⟨ac0, ec0, _, wc0⟩ := DataW.trod_int Try.underlying22 g1_0
    obtain rfl : c0 = .int .u16 ac0 := by simpa using ec0
    rw [List.getElem?_eq_getElem (by omega)] at g1_1
    simp only [z22, z43, Nat.reduceMul, List.drop_succ_cons, List.drop_zero, List.take_succ_cons, List.take_zero] at g1_1
    obtain ⟨ac1, ec1, _, wc1⟩ := DataW.trod_int Try.underlying22 g1_1
    obtain rfl : c1 = .int .u16 ac1 := by simpa using ec1
    rw [List.getElem?_eq_getElem (by omega)] at g1_2
    simp only [z22, z43, Nat.reduceMul, List.drop_succ_cons, List.drop_zero, List.take_succ_cons, List.take_zero] at g1_2
    obtain ⟨ac2, ec2, _, wc2⟩ := DataW.trod_int Try.underlying22 g1_2
    obtain rfl : c2 = .int .u16 ac2 := by simpa using ec2
    exact ⟨ac0, ac1, ac2, rfl, wc0, wc1, wc2⟩
set_option maxHeartbeats 4000000 in
theorem sl33 {H : Type} {enc : TypeId × Value → H} {W : World} {k : Nat} {cs : List Value} {x : DataW H × List MemPlace} (hf : DataW.trod enc Try.prog W 0 (fun _ => true) true k 33 cs = some x) :
    ∃ (A : Option Addr) (n : Nat) (cap : Nat) (f0 : (Nat → Int)) (f1 : (Nat → Int)) (f2 : (Nat → Int)), cs = [.slice A n cap] ∧ n ≤ cap ∧ cap ≤ maxLen ∧ Elts W A n 3 (fun i => [.int .u16 (f0 i), .int .u16 (f1 i), .int .u16 (f2 i)]) ∧ (∀ i, i < n → (Lit.int .u16 (f0 i)).wf = true ∧ (Lit.int .u16 (f1 i)).wf = true ∧ (Lit.int .u16 (f2 i)).wf = true ∧ True) := by
  rcases Go.Deep.open_slice Try.underlying33 hf with ⟨rfl, _⟩ | ⟨a, len, cap, m, fu, D, Pl, rfl, hb, hl, hm, hmm, hx, hi⟩
  · exact ⟨none, 0, 0, (fun _ => 0), (fun _ => 0), (fun _ => 0), rfl, Nat.le_refl _, Nat.zero_le _, fun i h => absurd h (Nat.not_lt_zero _), fun i h => absurd h (Nat.not_lt_zero _)⟩
  · have hmc : m = cap := by simpa using hmm
    have Q : ∀ i : Nat, ∃ (b0 : Int) (b1 : Int) (b2 : Int), i < len → (∃ cs', W.cells? 0 (a.add (i * 3)) 3 = some cs' ∧ cs' = [.int .u16 b0, .int .u16 b1, .int .u16 b2]) ∧ (Lit.int .u16 b0).wf = true ∧ (Lit.int .u16 b1).wf = true ∧ (Lit.int .u16 b2).wf = true ∧ True := by
      intro i
      by_cases h : i < len
      · obtain ⟨cs', hc, ht⟩ := hi i (by omega)
        rw [z43] at hc
        obtain ⟨_, hcl, hat⟩ := World.cells?_some hc
        obtain ⟨b0, b1, b2, e0, u0, u1, u2⟩ := elt43 hcl ht
        exact ⟨b0, b1, b2, fun _ => ⟨⟨cs', hc, e0⟩, u0, u1, u2, trivial⟩⟩
      · exact ⟨0, 0, 0, fun h' => absurd h' h⟩
    obtain ⟨f0, Q⟩ := Classical.skolem.1 Q
    obtain ⟨f1, Q⟩ := Classical.skolem.1 Q
    obtain ⟨f2, Q⟩ := Classical.skolem.1 Q
    exact ⟨some a, len, cap, f0, f1, f2, rfl, hl, hm, elts_of (by decide) (fun i h => (Q i h).1), fun i h => (Q i h).2⟩
theorem z24 : Try.prog.cellsOf 24 = 1 := by kernel_rfl
set_option maxRecDepth 100000 in
set_option maxHeartbeats 4000000 in
theorem elt24 {H : Type} {enc : TypeId × Value → H} {W : World} {k : Nat} {cs : List Value} {x : DataW H × List MemPlace} (hl : cs.length = 1) (hf : DataW.trod enc Try.prog W 0 (fun _ => true) true k 24 cs = some x) :
    ∃ (b0 : Int), cs = [.int .i16 b0] ∧ (Lit.int .i16 b0).wf = true := by
  match cs, hl with
  | [c0], _ =>
    obtain ⟨ac0, ec0, _, wc0⟩ := DataW.trod_int Try.underlying24 hf
    obtain rfl : c0 = .int .i16 ac0 := by simpa using ec0
    exact ⟨ac0, rfl, wc0⟩
set_option maxHeartbeats 4000000 in
theorem sl34 {H : Type} {enc : TypeId × Value → H} {W : World} {k : Nat} {cs : List Value} {x : DataW H × List MemPlace} (hf : DataW.trod enc Try.prog W 0 (fun _ => true) true k 34 cs = some x) :
    ∃ (A : Option Addr) (n : Nat) (cap : Nat) (f0 : (Nat → Int)), cs = [.slice A n cap] ∧ n ≤ cap ∧ cap ≤ maxLen ∧ Elts W A n 1 (fun i => [.int .i16 (f0 i)]) ∧ (∀ i, i < n → (Lit.int .i16 (f0 i)).wf = true ∧ True) := by
  rcases Go.Deep.open_slice Try.underlying34 hf with ⟨rfl, _⟩ | ⟨a, len, cap, m, fu, D, Pl, rfl, hb, hl, hm, hmm, hx, hi⟩
  · exact ⟨none, 0, 0, (fun _ => 0), rfl, Nat.le_refl _, Nat.zero_le _, fun i h => absurd h (Nat.not_lt_zero _), fun i h => absurd h (Nat.not_lt_zero _)⟩
  · have hmc : m = cap := by simpa using hmm
    have Q : ∀ i : Nat, ∃ (b0 : Int), i < len → (∃ cs', W.cells? 0 (a.add (i * 1)) 1 = some cs' ∧ cs' = [.int .i16 b0]) ∧ (Lit.int .i16 b0).wf = true ∧ True := by
      intro i
      by_cases h : i < len
      · obtain ⟨cs', hc, ht⟩ := hi i (by omega)
        rw [z24] at hc
        obtain ⟨_, hcl, hat⟩ := World.cells?_some hc
        obtain ⟨b0, e0, u0⟩ := elt24 hcl ht
        exact ⟨b0, fun _ => ⟨⟨cs', hc, e0⟩, u0, trivial⟩⟩
      · exact ⟨0, fun h' => absurd h' h⟩
    obtain ⟨f0, Q⟩ := Classical.skolem.1 Q
    exact ⟨some a, len, cap, f0, rfl, hl, hm, elts_of (by decide) (fun i h => (Q i h).1), fun i h => (Q i h).2⟩
theorem z21 : Try.prog.cellsOf 21 = 1 := by kernel_rfl
theorem z23 : Try.prog.cellsOf 23 = 4 := by kernel_rfl
theorem z25 : Try.prog.cellsOf 25 = 4 := by kernel_rfl
theorem z26 : Try.prog.cellsOf 26 = 8 := by kernel_rfl
theorem z27 : Try.prog.cellsOf 27 = 2 := by kernel_rfl
theorem z28 : Try.prog.cellsOf 28 = 4 := by kernel_rfl
theorem z29 : Try.prog.cellsOf 29 = 1 := by kernel_rfl
theorem z31 : Try.prog.cellsOf 31 = 29 := by kernel_rfl
theorem z32 : Try.prog.cellsOf 32 = 1 := by kernel_rfl
theorem z33 : Try.prog.cellsOf 33 = 1 := by kernel_rfl
theorem z34 : Try.prog.cellsOf 34 = 1 := by kernel_rfl
theorem z36 : Try.prog.cellsOf 36 = 32 := by kernel_rfl
set_option maxRecDepth 100000 in
set_option maxHeartbeats 4000000 in
theorem elt36 {H : Type} {enc : TypeId × Value → H} {W : World} {k : Nat} {cs : List Value} {x : DataW H × List MemPlace} (hl : cs.length = 32) (hf : DataW.trod enc Try.prog W 0 (fun _ => true) true k 36 cs = some x) :
    ∃ (b0 : Int) (b1 : Int) (b2 : Int) (b3 : Int) (b4 : Int) (b5 : Int) (b6 : Int) (b7 : Int) (b8 : Int) (b9 : Int) (b10 : Int) (b11 : Int) (b12 : Int) (b13 : Int) (b14 : Int) (b15 : Int) (b16 : Int) (b17 : Int) (b18 : Int) (b19 : Int) (b20 : Int) (b21 : Int) (b22 : Int) (b23 : Int) (b24 : Int) (b25 : Int) (b26 : Option Addr) (b27 : Nat) (b28 : Nat) (b29 : (Nat → Int)) (b30 : Option Addr) (b31 : Nat) (b32 : Nat) (b33 : (Nat → Int)) (b34 : Option Addr) (b35 : Nat) (b36 : Nat) (b37 : (Nat → Int)) (b38 : Int) (b39 : Option Addr) (b40 : Nat) (b41 : Nat) (b42 : (Nat → Int)) (b43 : (Nat → Int)) (b44 : (Nat → Int)) (b45 : Option Addr) (b46 : Nat) (b47 : Nat) (b48 : (Nat → Int)), cs = [.int .u16 b0, .int .u16 b1, .int .u16 b2, .int .u16 b3, .int .u16 b4, .int .u16 b5, .int .u16 b6, .int .u16 b7, .int .u16 b8, .int .u16 b9, .int .u16 b10, .int .u16 b11, .int .u16 b12, .int .i16 b13, .int .i16 b14, .int .i16 b15, .int .i16 b16, .int .i16 b17, .int .i16 b18, .int .i16 b19, .int .i16 b20, .int .i32 b21, .int .i32 b22, .int .i32 b23, .int .i32 b24, .int .u16 b25, .slice b26 b27 b28, .slice b30 b31 b32, .slice b34 b35 b36, .int .u32 b38, .slice b39 b40 b41, .slice b45 b46 b47] ∧ (Lit.int .u16 b0).wf = true ∧ (Lit.int .u16 b1).wf = true ∧ (Lit.int .u16 b2).wf = true ∧ (Lit.int .u16 b3).wf = true ∧ (Lit.int .u16 b4).wf = true ∧ (Lit.int .u16 b5).wf = true ∧ (Lit.int .u16 b6).wf = true ∧ (Lit.int .u16 b7).wf = true ∧ (Lit.int .u16 b8).wf = true ∧ (Lit.int .u16 b9).wf = true ∧ (Lit.int .u16 b10).wf = true ∧ (Lit.int .u16 b11).wf = true ∧ (Lit.int .u16 b12).wf = true ∧ (Lit.int .i16 b13).wf = true ∧ (Lit.int .i16 b14).wf = true ∧ (Lit.int .i16 b15).wf = true ∧ (Lit.int .i16 b16).wf = true ∧ (Lit.int .i16 b17).wf = true ∧ (Lit.int .i16 b18).wf = true ∧ (Lit.int .i16 b19).wf = true ∧ (Lit.int .i16 b20).wf = true ∧ (Lit.int .i32 b21).wf = true ∧ (Lit.int .i32 b22).wf = true ∧ (Lit.int .i32 b23).wf = true ∧ (Lit.int .i32 b24).wf = true ∧ (Lit.int .u16 b25).wf = true ∧ b27 ≤ b28 ∧ b28 ≤ maxLen ∧ Elts W b26 b27 1 (fun i => [.int .u8 (b29 i)]) ∧ (∀ i, i < b27 → (Lit.int .u8 (b29 i)).wf = true ∧ True) ∧ b31 ≤ b32 ∧ b32 ≤ maxLen ∧ Elts W b30 b31 1 (fun i => [.int .u8 (b33 i)]) ∧ (∀ i, i < b31 → (Lit.int .u8 (b33 i)).wf = true ∧ True) ∧ b35 ≤ b36 ∧ b36 ≤ maxLen ∧ Elts W b34 b35 1 (fun i => [.int .u8 (b37 i)]) ∧ (∀ i, i < b35 → (Lit.int .u8 (b37 i)).wf = true ∧ True) ∧ (Lit.int .u32 b38).wf = true ∧ b40 ≤ b41 ∧ b41 ≤ maxLen ∧ Elts W b39 b40 3 (fun i => [.int .u16 (b42 i), .int .u16 (b43 i), .int .u16 (b44 i)]) ∧ (∀ i, i < b40 → (Lit.int .u16 (b42 i)).wf = true ∧ (Lit.int .u16 (b43 i)).wf = true ∧ (Lit.int .u16 (b44 i)).wf = true ∧ True) ∧ b46 ≤ b47 ∧ b47 ≤ maxLen ∧ Elts W b45 b46 1 (fun i => [.int .i16 (b48 i)]) ∧ (∀ i, i < b46 → (Lit.int .i16 (b48 i)).wf = true ∧ True) := by
  match cs, hl with
  | [c0, c1, c2, c3, c4, c5, c6, c7, c8, c9, c10, c11, c12, c13, c14, c15, c16, c17, c18, c19, c20, c21, c22, c23, c24, c25, c26, c27, c28, c29, c30, c31], _ =>
    obtain ⟨xs2, n2, _, _, _, hl2, hg2⟩ := DataW.trod_struct Try.underlying36 hf
    have g2_0 : DataW.trod enc Try.prog W 0 (fun _ => true) true n2 31 ((([c0, c1, c2, c3, c4, c5, c6, c7, c8, c9, c10, c11, c12, c13, c14, c15, c16, c17, c18, c19, c20, c21, c22, c23, c24, c25, c26, c27, c28, c29, c30, c31] : List Value).drop 0).take (Try.prog.cellsOf 31)) = xs2[0]? := hg2 0 _ rfl
    have g2_1 : DataW.trod enc Try.prog W 0 (fun _ => true) true n2 32 ((([c0, c1, c2, c3, c4, c5, c6, c7, c8, c9, c10, c11, c12, c13, c14, c15, c16, c17, c18, c19, c20, c21, c22, c23, c24, c25, c26, c27, c28, c29, c30, c31] : List Value).drop 29).take (Try.prog.cellsOf 32)) = xs2[1]? := hg2 1 _ rfl
    have g2_2 : DataW.trod enc Try.prog W 0 (fun _ => true) true n2 33 ((([c0, c1, c2, c3, c4, c5, c6, c7, c8, c9, c10, c11, c12, c13, c14, c15, c16, c17, c18, c19, c20, c21, c22, c23, c24, c25, c26, c27, c28, c29, c30, c31] : List Value).drop 30).take (Try.prog.cellsOf 33)) = xs2[2]? := hg2 2 _ rfl
    have g2_3 : DataW.trod enc Try.prog W 0 (fun _ => true) true n2 34 ((([c0, c1, c2, c3, c4, c5, c6, c7, c8, c9, c10, c11, c12, c13, c14, c15, c16, c17, c18, c19, c20, c21, c22, c23, c24, c25, c26, c27, c28, c29, c30, c31] : List Value).drop 31).take (Try.prog.cellsOf 34)) = xs2[3]? := hg2 3 _ rfl
    replace hl2 : xs2.length = 4 := hl2
    rw [List.getElem?_eq_getElem (by omega)] at g2_0
    simp only [z21, z22, z23, z24, z25, z26, z27, z28, z29, z31, z32, z33, z34, z36, Nat.reduceMul, List.drop_succ_cons, List.drop_zero, List.take_succ_cons, List.take_zero] at g2_0
    obtain ⟨xs3, n3, _, _, _, hl3, hg3⟩ := DataW.trod_struct Try.underlying31 g2_0
    have g3_0 : DataW.trod enc Try.prog W 0 (fun _ => true) true n3 22 ((([c0, c1, c2, c3, c4, c5, c6, c7, c8, c9, c10, c11, c12, c13, c14, c15, c16, c17, c18, c19, c20, c21, c22, c23, c24, c25, c26, c27, c28] : List Value).drop 0).take (Try.prog.cellsOf 22)) = xs3[0]? := hg3 0 _ rfl
    have g3_1 : DataW.trod enc Try.prog W 0 (fun _ => true) true n3 23 ((([c0, c1, c2, c3, c4, c5, c6, c7, c8, c9, c10, c11, c12, c13, c14, c15, c16, c17, c18, c19, c20, c21, c22, c23, c24, c25, c26, c27, c28] : List Value).drop 1).take (Try.prog.cellsOf 23)) = xs3[1]? := hg3 1 _ rfl
    have g3_2 : DataW.trod enc Try.prog W 0 (fun _ => true) true n3 23 ((([c0, c1, c2, c3, c4, c5, c6, c7, c8, c9, c10, c11, c12, c13, c14, c15, c16, c17, c18, c19, c20, c21, c22, c23, c24, c25, c26, c27, c28] : List Value).drop 5).take (Try.prog.cellsOf 23)) = xs3[2]? := hg3 2 _ rfl
    have g3_3 : DataW.trod enc Try.prog W 0 (fun _ => true) true n3 23 ((([c0, c1, c2, c3, c4, c5, c6, c7, c8, c9, c10, c11, c12, c13, c14, c15, c16, c17, c18, c19, c20, c21, c22, c23, c24, c25, c26, c27, c28] : List Value).drop 9).take (Try.prog.cellsOf 23)) = xs3[3]? := hg3 3 _ rfl
    have g3_4 : DataW.trod enc Try.prog W 0 (fun _ => true) true n3 26 ((([c0, c1, c2, c3, c4, c5, c6, c7, c8, c9, c10, c11, c12, c13, c14, c15, c16, c17, c18, c19, c20, c21, c22, c23, c24, c25, c26, c27, c28] : List Value).drop 13).take (Try.prog.cellsOf 26)) = xs3[4]? := hg3 4 _ rfl
    have g3_5 : DataW.trod enc Try.prog W 0 (fun _ => true) true n3 28 ((([c0, c1, c2, c3, c4, c5, c6, c7, c8, c9, c10, c11, c12, c13, c14, c15, c16, c17, c18, c19, c20, c21, c22, c23, c24, c25, c26, c27, c28] : List Value).drop 21).take (Try.prog.cellsOf 28)) = xs3[5]? := hg3 5 _ rfl
    have g3_6 : DataW.trod enc Try.prog W 0 (fun _ => true) true n3 22 ((([c0, c1, c2, c3, c4, c5, c6, c7, c8, c9, c10, c11, c12, c13, c14, c15, c16, c17, c18, c19, c20, c21, c22, c23, c24, c25, c26, c27, c28] : List Value).drop 25).take (Try.prog.cellsOf 22)) = xs3[6]? := hg3 6 _ rfl
    have g3_7 : DataW.trod enc Try.prog W 0 (fun _ => true) true n3 29 ((([c0, c1, c2, c3, c4, c5, c6, c7, c8, c9, c10, c11, c12, c13, c14, c15, c16, c17, c18, c19, c20, c21, c22, c23, c24, c25, c26, c27, c28] : List Value).drop 26).take (Try.prog.cellsOf 29)) = xs3[7]? := hg3 7 _ rfl
    have g3_8 : DataW.trod enc Try.prog W 0 (fun _ => true) true n3 29 ((([c0, c1, c2, c3, c4, c5, c6, c7, c8, c9, c10, c11, c12, c13, c14, c15, c16, c17, c18, c19, c20, c21, c22, c23, c24, c25, c26, c27, c28] : List Value).drop 27).take (Try.prog.cellsOf 29)) = xs3[8]? := hg3 8 _ rfl
    have g3_9 : DataW.trod enc Try.prog W 0 (fun _ => true) true n3 29 ((([c0, c1, c2, c3, c4, c5, c6, c7, c8, c9, c10, c11, c12, c13, c14, c15, c16, c17, c18, c19, c20, c21, c22, c23, c24, c25, c26, c27, c28] : List Value).drop 28).take (Try.prog.cellsOf 29)) = xs3[9]? := hg3 9 _ rfl
    replace hl3 : xs3.length = 10 := hl3
    rw [List.getElem?_eq_getElem (by omega)] at g3_0
    simp only [z21, z22, z23, z24, z25, z26, z27, z28, z29, z31, Nat.reduceMul, List.drop_succ_cons, List.drop_zero, List.take_succ_cons, List.take_zero] at g3_0
    obtain ⟨ac0, ec0, _, wc0⟩ := DataW.trod_int Try.underlying22 g3_0
    obtain rfl : c0 = .int .u16 ac0 := by simpa using ec0
    rw [List.getElem?_eq_getElem (by omega)] at g3_1
    simp only [z21, z22, z23, z24, z25, z26, z27, z28, z29, z31, Nat.reduceMul, List.drop_succ_cons, List.drop_zero, List.take_succ_cons, List.take_zero] at g3_1
    obtain ⟨xs4, n4, _, _, _, hl4, hg4⟩ := DataW.trod_array Try.underlying23 g3_1
    have g4_0 : DataW.trod enc Try.prog W 0 (fun _ => true) true n4 22 ((([c1, c2, c3, c4] : List Value).drop (0 * Try.prog.cellsOf 22)).take (Try.prog.cellsOf 22)) = xs4[0]? := hg4 0 (by decide)
    have g4_1 : DataW.trod enc Try.prog W 0 (fun _ => true) true n4 22 ((([c1, c2, c3, c4] : List Value).drop (1 * Try.prog.cellsOf 22)).take (Try.prog.cellsOf 22)) = xs4[1]? := hg4 1 (by decide)
    have g4_2 : DataW.trod enc Try.prog W 0 (fun _ => true) true n4 22 ((([c1, c2, c3, c4] : List Value).drop (2 * Try.prog.cellsOf 22)).take (Try.prog.cellsOf 22)) = xs4[2]? := hg4 2 (by decide)
    have g4_3 : DataW.trod enc Try.prog W 0 (fun _ => true) true n4 22 ((([c1, c2, c3, c4] : List Value).drop (3 * Try.prog.cellsOf 22)).take (Try.prog.cellsOf 22)) = xs4[3]? := hg4 3 (by decide)
    replace hl4 : xs4.length = 4 := hl4
    rw [List.getElem?_eq_getElem (by omega)] at g4_0
    simp only [z22, z23, Nat.reduceMul, List.drop_succ_cons, List.drop_zero, List.take_succ_cons, List.take_zero] at g4_0
    obtain ⟨ac1, ec1, _, wc1⟩ := DataW.trod_int Try.underlying22 g4_0
    obtain rfl : c1 = .int .u16 ac1 := by simpa using ec1
    rw [List.getElem?_eq_getElem (by omega)] at g4_1
    simp only [z22, z23, Nat.reduceMul, List.drop_succ_cons, List.drop_zero, List.take_succ_cons, List.take_zero] at g4_1
    obtain ⟨ac2, ec2, _, wc2⟩ := DataW.trod_int Try.underlying22 g4_1
    obtain rfl : c2 = .int .u16 ac2 := by simpa using ec2
    rw [List.getElem?_eq_getElem (by omega)] at g4_2
    simp only [z22, z23, Nat.reduceMul, List.drop_succ_cons, List.drop_zero, List.take_succ_cons, List.take_zero] at g4_2
    obtain ⟨ac3, ec3, _, wc3⟩ := DataW.trod_int Try.underlying22 g4_2
    obtain rfl : c3 = .int .u16 ac3 := by simpa using ec3
    rw [List.getElem?_eq_getElem (by omega)] at g4_3
    simp only [z22, z23, Nat.reduceMul, List.drop_succ_cons, List.drop_zero, List.take_succ_cons, List.take_zero] at g4_3
    obtain ⟨ac4, ec4, _, wc4⟩ := DataW.trod_int Try.underlying22 g4_3
    obtain rfl : c4 = .int .u16 ac4 := by simpa using ec4
    rw [List.getElem?_eq_getElem (by omega)] at g3_2
    simp only [z21, z22, z23, z24, z25, z26, z27, z28, z29, z31, Nat.reduceMul, List.drop_succ_cons, List.drop_zero, List.take_succ_cons, List.take_zero] at g3_2
    obtain ⟨xs5, n5, _, _, _, hl5, hg5⟩ := DataW.trod_array Try.underlying23 g3_2
    have g5_0 : DataW.trod enc Try.prog W 0 (fun _ => true) true n5 22 ((([c5, c6, c7, c8] : List Value).drop (0 * Try.prog.cellsOf 22)).take (Try.prog.cellsOf 22)) = xs5[0]? := hg5 0 (by decide)
    have g5_1 : DataW.trod enc Try.prog W 0 (fun _ => true) true n5 22 ((([c5, c6, c7, c8] : List Value).drop (1 * Try.prog.cellsOf 22)).take (Try.prog.cellsOf 22)) = xs5[1]? := hg5 1 (by decide)
    have g5_2 : DataW.trod enc Try.prog W 0 (fun _ => true) true n5 22 ((([c5, c6, c7, c8] : List Value).drop (2 * Try.prog.cellsOf 22)).take (Try.prog.cellsOf 22)) = xs5[2]? := hg5 2 (by decide)
    have g5_3 : DataW.trod enc Try.prog W 0 (fun _ => true) true n5 22 ((([c5, c6, c7, c8] : List Value).drop (3 * Try.prog.cellsOf 22)).take (Try.prog.cellsOf 22)) = xs5[3]? := hg5 3 (by decide)
    replace hl5 : xs5.length = 4 := hl5
    rw [List.getElem?_eq_getElem (by omega)] at g5_0
    simp only [z22, z23, Nat.reduceMul, List.drop_succ_cons, List.drop_zero, List.take_succ_cons, List.take_zero] at g5_0
    obtain ⟨ac5, ec5, _, wc5⟩ := DataW.trod_int Try.underlying22 g5_0
    obtain rfl : c5 = .int .u16 ac5 := by simpa using ec5
    rw [List.getElem?_eq_getElem (by omega)] at g5_1
    simp only [z22, z23, Nat.reduceMul, List.drop_succ_cons, List.drop_zero, List.take_succ_cons, List.take_zero] at g5_1
    obtain ⟨ac6, ec6, _, wc6⟩ := DataW.trod_int Try.underlying22 g5_1
    obtain rfl : c6 = .int .u16 ac6 := by simpa using ec6
    rw [List.getElem?_eq_getElem (by omega)] at g5_2
    simp only [z22, z23, Nat.reduceMul, List.drop_succ_cons, List.drop_zero, List.take_succ_cons, List.take_zero] at g5_2
    obtain ⟨ac7, ec7, _, wc7⟩ := DataW.trod_int Try.underlying22 g5_2
    obtain rfl : c7 = .int .u16 ac7 := by simpa using ec7
    rw [List.getElem?_eq_getElem (by omega)] at g5_3
    simp only [z22, z23, Nat.reduceMul, List.drop_succ_cons, List.drop_zero, List.take_succ_cons, List.take_zero] at g5_3
    obtain ⟨ac8, ec8, _, wc8⟩ := DataW.trod_int Try.underlying22 g5_3
    obtain rfl : c8 = .int .u16 ac8 := by simpa using ec8
    rw [List.getElem?_eq_getElem (by omega)] at g3_3
    simp only [z21, z22, z23, z24, z25, z26, z27, z28, z29, z31, Nat.reduceMul, List.drop_succ_cons, List.drop_zero, List.take_succ_cons, List.take_zero] at g3_3
    obtain ⟨xs6, n6, _, _, _, hl6, hg6⟩ := DataW.trod_array Try.underlying23 g3_3
    have g6_0 : DataW.trod enc Try.prog W 0 (fun _ => true) true n6 22 ((([c9, c10, c11, c12] : List Value).drop (0 * Try.prog.cellsOf 22)).take (Try.prog.cellsOf 22)) = xs6[0]? := hg6 0 (by decide)
    have g6_1 : DataW.trod enc Try.prog W 0 (fun _ => true) true n6 22 ((([c9, c10, c11, c12] : List Value).drop (1 * Try.prog.cellsOf 22)).take (Try.prog.cellsOf 22)) = xs6[1]? := hg6 1 (by decide)
    have g6_2 : DataW.trod enc Try.prog W 0 (fun _ => true) true n6 22 ((([c9, c10, c11, c12] : List Value).drop (2 * Try.prog.cellsOf 22)).take (Try.prog.cellsOf 22)) = xs6[2]? := hg6 2 (by decide)
    have g6_3 : DataW.trod enc Try.prog W 0 (fun _ => true) true n6 22 ((([c9, c10, c11, c12] : List Value).drop (3 * Try.prog.cellsOf 22)).take (Try.prog.cellsOf 22)) = xs6[3]? := hg6 3 (by decide)
    replace hl6 : xs6.length = 4 := hl6
    rw [List.getElem?_eq_getElem (by omega)] at g6_0
    simp only [z22, z23, Nat.reduceMul, List.drop_succ_cons, List.drop_zero, List.take_succ_cons, List.take_zero] at g6_0
    obtain ⟨ac9, ec9, _, wc9⟩ := DataW.trod_int Try.underlying22 g6_0
    obtain rfl : c9 = .int .u16 ac9 := by simpa using ec9
    rw [List.getElem?_eq_getElem (by omega)] at g6_1
    simp only [z22, z23, Nat.reduceMul, List.drop_succ_cons, List.drop_zero, List.take_succ_cons, List.take_zero] at g6_1
    obtain ⟨ac10, ec10, _, wc10⟩ := DataW.trod_int Try.underlying22 g6_1
    obtain rfl : c10 = .int .u16 ac10 := by simpa using ec10
    rw [List.getElem?_eq_getElem (by omega)] at g6_2
    simp only [z22, z23, Nat.reduceMul, List.drop_succ_cons, List.drop_zero, List.take_succ_cons, List.take_zero] at g6_2
    obtain ⟨ac11, ec11, _, wc11⟩ := DataW.trod_int Try.underlying22 g6_2
    obtain rfl : c11 = .int .u16 ac11 := by simpa using ec11
    rw [List.getElem?_eq_getElem (by omega)] at g6_3
    simp only [z22, z23, Nat.reduceMul, List.drop_succ_cons, List.drop_zero, List.take_succ_cons, List.take_zero] at g6_3
    obtain ⟨ac12, ec12, _, wc12⟩ := DataW.trod_int Try.underlying22 g6_3
    obtain rfl : c12 = .int .u16 ac12 := by simpa using ec12
    rw [List.getElem?_eq_getElem (by omega)] at g3_4
    simp only [z21, z22, z23, z24, z25, z26, z27, z28, z29, z31, Nat.reduceMul, List.drop_succ_cons, List.drop_zero, List.take_succ_cons, List.take_zero] at g3_4
    obtain ⟨xs7, n7, _, _, _, hl7, hg7⟩ := DataW.trod_array Try.underlying26 g3_4
    have g7_0 : DataW.trod enc Try.prog W 0 (fun _ => true) true n7 25 ((([c13, c14, c15, c16, c17, c18, c19, c20] : List Value).drop (0 * Try.prog.cellsOf 25)).take (Try.prog.cellsOf 25)) = xs7[0]? := hg7 0 (by decide)
    have g7_1 : DataW.trod enc Try.prog W 0 (fun _ => true) true n7 25 ((([c13, c14, c15, c16, c17, c18, c19, c20] : List Value).drop (1 * Try.prog.cellsOf 25)).take (Try.prog.cellsOf 25)) = xs7[1]? := hg7 1 (by decide)
    replace hl7 : xs7.length = 2 := hl7
    rw [List.getElem?_eq_getElem (by omega)] at g7_0
    simp only [z24, z25, z26, Nat.reduceMul, List.drop_succ_cons, List.drop_zero, List.take_succ_cons, List.take_zero] at g7_0
    obtain ⟨xs8, n8, _, _, _, hl8, hg8⟩ := DataW.trod_array Try.underlying25 g7_0
    have g8_0 : DataW.trod enc Try.prog W 0 (fun _ => true) true n8 24 ((([c13, c14, c15, c16] : List Value).drop (0 * Try.prog.cellsOf 24)).take (Try.prog.cellsOf 24)) = xs8[0]? := hg8 0 (by decide)
    have g8_1 : DataW.trod enc Try.prog W 0 (fun _ => true) true n8 24 ((([c13, c14, c15, c16] : List Value).drop (1 * Try.prog.cellsOf 24)).take (Try.prog.cellsOf 24)) = xs8[1]? := hg8 1 (by decide)
    have g8_2 : DataW.trod enc Try.prog W 0 (fun _ => true) true n8 24 ((([c13, c14, c15, c16] : List Value).drop (2 * Try.prog.cellsOf 24)).take (Try.prog.cellsOf 24)) = xs8[2]? := hg8 2 (by decide)
    have g8_3 : DataW.trod enc Try.prog W 0 (fun _ => true) true n8 24 ((([c13, c14, c15, c16] : List Value).drop (3 * Try.prog.cellsOf 24)).take (Try.prog.cellsOf 24)) = xs8[3]? := hg8 3 (by decide)
    replace hl8 : xs8.length = 4 := hl8
    rw [List.getElem?_eq_getElem (by omega)] at g8_0
    simp only [z24, z25, Nat.reduceMul, List.drop_succ_cons, List.drop_zero, List.take_succ_cons, List.take_zero] at g8_0
    obtain ⟨ac13, ec13, _, wc13⟩ := DataW.trod_int Try.underlying24 g8_0
    obtain rfl : c13 = .int .i16 ac13 := by simpa using ec13
    rw [List.getElem?_eq_getElem (by omega)] at g8_1
    simp only [z24, z25, Nat.reduceMul, List.drop_succ_cons, List.drop_zero, List.take_succ_cons, List.take_zero] at g8_1
    obtain ⟨ac14, ec14, _, wc14⟩ := DataW.trod_int Try.underlying24 g8_1
    obtain rfl : c14 = .int .i16 ac14 := by simpa using ec14
    rw [List.getElem?_eq_getElem (by omega)] at g8_2
    simp only [z24, z25, Nat.reduceMul, List.drop_succ_cons, List.drop_zero, List.take_succ_cons, List.take_zero] at g8_2
    obtain ⟨ac15, ec15, _, wc15⟩ := DataW.trod_int Try.underlying24 g8_2
    obtain rfl : c15 = .int .i16 ac15 := by simpa using ec15
    rw [List.getElem?_eq_getElem (by omega)] at g8_3
    simp only [z24, z25, Nat.reduceMul, List.drop_succ_cons, List.drop_zero, List.take_succ_cons, List.take_zero] at g8_3
    obtain ⟨ac16, ec16, _, wc16⟩ := DataW.trod_int Try.underlying24 g8_3
    obtain rfl : c16 = .int .i16 ac16 := by simpa using ec16
    rw [List.getElem?_eq_getElem (by omega)] at g7_1
    simp only [z24, z25, z26, Nat.reduceMul, List.drop_succ_cons, List.drop_zero, List.take_succ_cons, List.take_zero] at g7_1
    obtain ⟨xs9, n9, _, _, _, hl9, hg9⟩ := DataW.trod_array Try.underlying25 g7_1
    have g9_0 : DataW.trod enc Try.prog W 0 (fun _ => true) true n9 24 ((([c17, c18, c19, c20] : List Value).drop (0 * Try.prog.cellsOf 24)).take (Try.prog.cellsOf 24)) = xs9[0]? := hg9 0 (by decide)
    have g9_1 : DataW.trod enc Try.prog W 0 (fun _ => true) true n9 24 ((([c17, c18, c19, c20] : List Value).drop (1 * Try.prog.cellsOf 24)).take (Try.prog.cellsOf 24)) = xs9[1]? := hg9 1 (by decide)
    have g9_2 : DataW.trod enc Try.prog W 0 (fun _ => true) true n9 24 ((([c17, c18, c19, c20] : List Value).drop (2 * Try.prog.cellsOf 24)).take (Try.prog.cellsOf 24)) = xs9[2]? := hg9 2 (by decide)
    have g9_3 : DataW.trod enc Try.prog W 0 (fun _ => true) true n9 24 ((([c17, c18, c19, c20] : List Value).drop (3 * Try.prog.cellsOf 24)).take (Try.prog.cellsOf 24)) = xs9[3]? := hg9 3 (by decide)
    replace hl9 : xs9.length = 4 := hl9
    rw [List.getElem?_eq_getElem (by omega)] at g9_0
    simp only [z24, z25, Nat.reduceMul, List.drop_succ_cons, List.drop_zero, List.take_succ_cons, List.take_zero] at g9_0
    obtain ⟨ac17, ec17, _, wc17⟩ := DataW.trod_int Try.underlying24 g9_0
    obtain rfl : c17 = .int .i16 ac17 := by simpa using ec17
    rw [List.getElem?_eq_getElem (by omega)] at g9_1
    simp only [z24, z25, Nat.reduceMul, List.drop_succ_cons, List.drop_zero, List.take_succ_cons, List.take_zero] at g9_1
    obtain ⟨ac18, ec18, _, wc18⟩ := DataW.trod_int Try.underlying24 g9_1
    obtain rfl : c18 = .int .i16 ac18 := by simpa using ec18
    rw [List.getElem?_eq_getElem (by omega)] at g9_2
    simp only [z24, z25, Nat.reduceMul, List.drop_succ_cons, List.drop_zero, List.take_succ_cons, List.take_zero] at g9_2
    obtain ⟨ac19, ec19, _, wc19⟩ := DataW.trod_int Try.underlying24 g9_2
    obtain rfl : c19 = .int .i16 ac19 := by simpa using ec19
    rw [List.getElem?_eq_getElem (by omega)] at g9_3
    simp only [z24, z25, Nat.reduceMul, List.drop_succ_cons, List.drop_zero, List.take_succ_cons, List.take_zero] at g9_3
    obtain ⟨ac20, ec20, _, wc20⟩ := DataW.trod_int Try.underlying24 g9_3
    obtain rfl : c20 = .int .i16 ac20 := by simpa using ec20
    rw [List.getElem?_eq_getElem (by omega)] at g3_5
    simp only [z21, z22, z23, z24, z25, z26, z27, z28, z29, z31, Nat.reduceMul, List.drop_succ_cons, List.drop_zero, List.take_succ_cons, List.take_zero] at g3_5
    obtain ⟨xs10, n10, _, _, _, hl10, hg10⟩ := DataW.trod_array Try.underlying28 g3_5
    have g10_0 : DataW.trod enc Try.prog W 0 (fun _ => true) true n10 27 ((([c21, c22, c23, c24] : List Value).drop (0 * Try.prog.cellsOf 27)).take (Try.prog.cellsOf 27)) = xs10[0]? := hg10 0 (by decide)
    have g10_1 : DataW.trod enc Try.prog W 0 (fun _ => true) true n10 27 ((([c21, c22, c23, c24] : List Value).drop (1 * Try.prog.cellsOf 27)).take (Try.prog.cellsOf 27)) = xs10[1]? := hg10 1 (by decide)
    replace hl10 : xs10.length = 2 := hl10
    rw [List.getElem?_eq_getElem (by omega)] at g10_0
    simp only [z21, z27, z28, Nat.reduceMul, List.drop_succ_cons, List.drop_zero, List.take_succ_cons, List.take_zero] at g10_0
    obtain ⟨xs11, n11, _, _, _, hl11, hg11⟩ := DataW.trod_array Try.underlying27 g10_0
    have g11_0 : DataW.trod enc Try.prog W 0 (fun _ => true) true n11 21 ((([c21, c22] : List Value).drop (0 * Try.prog.cellsOf 21)).take (Try.prog.cellsOf 21)) = xs11[0]? := hg11 0 (by decide)
    have g11_1 : DataW.trod enc Try.prog W 0 (fun _ => true) true n11 21 ((([c21, c22] : List Value).drop (1 * Try.prog.cellsOf 21)).take (Try.prog.cellsOf 21)) = xs11[1]? := hg11 1 (by decide)
    replace hl11 : xs11.length = 2 := hl11
    rw [List.getElem?_eq_getElem (by omega)] at g11_0
    simp only [z21, z27, Nat.reduceMul, List.drop_succ_cons, List.drop_zero, List.take_succ_cons, List.take_zero] at g11_0
    obtain ⟨ac21, ec21, _, wc21⟩ := DataW.trod_int Try.underlying21 g11_0
    obtain rfl : c21 = .int .i32 ac21 := by simpa using ec21
    rw [List.getElem?_eq_getElem (by omega)] at g11_1
    simp only [z21, z27, Nat.reduceMul, List.drop_succ_cons, List.drop_zero, List.take_succ_cons, List.take_zero] at g11_1
    obtain ⟨ac22, ec22, _, wc22⟩ := DataW.trod_int Try.underlying21 g11_1
    obtain rfl : c22 = .int .i32 ac22 := by simpa using ec22
    rw [List.getElem?_eq_getElem (by omega)] at g10_1
    simp only [z21, z27, z28, Nat.reduceMul, List.drop_succ_cons, List.drop_zero, List.take_succ_cons, List.take_zero] at g10_1
    obtain ⟨xs12, n12, _, _, _, hl12, hg12⟩ := DataW.trod_array Try.underlying27 g10_1
    have g12_0 : DataW.trod enc Try.prog W 0 (fun _ => true) true n12 21 ((([c23, c24] : List Value).drop (0 * Try.prog.cellsOf 21)).take (Try.prog.cellsOf 21)) = xs12[0]? := hg12 0 (by decide)
    have g12_1 : DataW.trod enc Try.prog W 0 (fun _ => true) true n12 21 ((([c23, c24] : List Value).drop (1 * Try.prog.cellsOf 21)).take (Try.prog.cellsOf 21)) = xs12[1]? := hg12 1 (by decide)
    replace hl12 : xs12.length = 2 := hl12
    rw [List.getElem?_eq_getElem (by omega)] at g12_0
    simp only [z21, z27, Nat.reduceMul, List.drop_succ_cons, List.drop_zero, List.take_succ_cons, List.take_zero] at g12_0
    obtain ⟨ac23, ec23, _, wc23⟩ := DataW.trod_int Try.underlying21 g12_0
    obtain rfl : c23 = .int .i32 ac23 := by simpa using ec23
    rw [List.getElem?_eq_getElem (by omega)] at g12_1
    simp only [z21, z27, Nat.reduceMul, List.drop_succ_cons, List.drop_zero, List.take_succ_cons, List.take_zero] at g12_1
    obtain ⟨ac24, ec24, _, wc24⟩ := DataW.trod_int Try.underlying21 g12_1
    obtain rfl : c24 = .int .i32 ac24 := by simpa using ec24
    rw [List.getElem?_eq_getElem (by omega)] at g3_6
    simp only [z21, z22, z23, z24, z25, z26, z27, z28, z29, z31, Nat.reduceMul, List.drop_succ_cons, List.drop_zero, List.take_succ_cons, List.take_zero] at g3_6
    obtain ⟨ac25, ec25, _, wc25⟩ := DataW.trod_int Try.underlying22 g3_6
    obtain rfl : c25 = .int .u16 ac25 := by simpa using ec25
    rw [List.getElem?_eq_getElem (by omega)] at g3_7
    simp only [z21, z22, z23, z24, z25, z26, z27, z28, z29, z31, Nat.reduceMul, List.drop_succ_cons, List.drop_zero, List.take_succ_cons, List.take_zero] at g3_7
    obtain ⟨ac26_0, ac26_1, ac26_2, ac26_3, ec26, wc26_0, wc26_1, wc26_2, wc26_3⟩ := sl29 g3_7
    obtain rfl : c26 = .slice ac26_0 ac26_1 ac26_2 := by simpa using ec26
    rw [List.getElem?_eq_getElem (by omega)] at g3_8
    simp only [z21, z22, z23, z24, z25, z26, z27, z28, z29, z31, Nat.reduceMul, List.drop_succ_cons, List.drop_zero, List.take_succ_cons, List.take_zero] at g3_8
    obtain ⟨ac27_0, ac27_1, ac27_2, ac27_3, ec27, wc27_0, wc27_1, wc27_2, wc27_3⟩ := sl29 g3_8
    obtain rfl : c27 = .slice ac27_0 ac27_1 ac27_2 := by simpa using ec27
    rw [List.getElem?_eq_getElem (by omega)] at g3_9
    simp only [z21, z22, z23, z24, z25, z26, z27, z28, z29, z31, Nat.reduceMul, List.drop_succ_cons, List.drop_zero, List.take_succ_cons, List.take_zero] at g3_9
    obtain ⟨ac28_0, ac28_1, ac28_2, ac28_3, ec28, wc28_0, wc28_1, wc28_2, wc28_3⟩ := sl29 g3_9
    obtain rfl : c28 = .slice ac28_0 ac28_1 ac28_2 := by simpa using ec28
    rw [List.getElem?_eq_getElem (by omega)] at g2_1
    simp only [z21, z22, z23, z24, z25, z26, z27, z28, z29, z31, z32, z33, z34, z36, Nat.reduceMul, List.drop_succ_cons, List.drop_zero, List.take_succ_cons, List.take_zero] at g2_1
    obtain ⟨ac29, ec29, _, wc29⟩ := DataW.trod_int Try.underlying32 g2_1
    obtain rfl : c29 = .int .u32 ac29 := by simpa using ec29
    rw [List.getElem?_eq_getElem (by omega)] at g2_2
    simp only [z21, z22, z23, z24, z25, z26, z27, z28, z29, z31, z32, z33, z34, z36, Nat.reduceMul, List.drop_succ_cons, List.drop_zero, List.take_succ_cons, List.take_zero] at g2_2
    obtain ⟨ac30_0, ac30_1, ac30_2, ac30_3, ac30_4, ac30_5, ec30, wc30_0, wc30_1, wc30_2, wc30_3⟩ := sl33 g2_2
    obtain rfl : c30 = .slice ac30_0 ac30_1 ac30_2 := by simpa using ec30
    rw [List.getElem?_eq_getElem (by omega)] at g2_3
    simp only [z21, z22, z23, z24, z25, z26, z27, z28, z29, z31, z32, z33, z34, z36, Nat.reduceMul, List.drop_succ_cons, List.drop_zero, List.take_succ_cons, List.take_zero] at g2_3
    obtain ⟨ac31_0, ac31_1, ac31_2, ac31_3, ec31, wc31_0, wc31_1, wc31_2, wc31_3⟩ := sl34 g2_3
    obtain rfl : c31 = .slice ac31_0 ac31_1 ac31_2 := by simpa using ec31
    exact ⟨ac0, ac1, ac2, ac3, ac4, ac5, ac6, ac7, ac8, ac9, ac10, ac11, ac12, ac13, ac14, ac15, ac16, ac17, ac18, ac19, ac20, ac21, ac22, ac23, ac24, ac25, ac26_0, ac26_1, ac26_2, ac26_3, ac27_0, ac27_1, ac27_2, ac27_3, ac28_0, ac28_1, ac28_2, ac28_3, ac29, ac30_0, ac30_1, ac30_2, ac30_3, ac30_4, ac30_5, ac31_0, ac31_1, ac31_2, ac31_3, rfl, wc0, wc1, wc2, wc3, wc4, wc5, wc6, wc7, wc8, wc9, wc10, wc11, wc12, wc13, wc14, wc15, wc16, wc17, wc18, wc19, wc20, wc21, wc22, wc23, wc24, wc25, wc26_0, wc26_1, wc26_2, wc26_3, wc27_0, wc27_1, wc27_2, wc27_3, wc28_0, wc28_1, wc28_2, wc28_3, wc29, wc30_0, wc30_1, wc30_2, wc30_3, wc31_0, wc31_1, wc31_2, wc31_3⟩
set_option maxRecDepth 100000 in
set_option maxHeartbeats 4000000 in
theorem lifted (os : Os) (started : os.Started) (H : Type) (enc : TypeId × Value → H) :
    ReturnsInHanded {} Try.checked os 3 .any (Rows.objDrawsSpec.pre6 enc Try.prog Try.f3 Rows.objDrawsRow.domain false) (Rows.objDrawsSpec.post enc Try.prog Try.f3 false true false false) := by
  refine returnsInHanded_of_change_sized (C := Try.checked) own started (by kernel_rfl) Try.func3
    (ChangeSpec.witness6 (enc := enc) (C := Try.checked) false ⟨#[], #[.agg #[.int .u16 0, .int .u16 0, .int .u16 0, .int .u16 0, .int .u16 0, .int .u16 0, .int .u16 0, .int .u16 0, .int .u16 0, .int .u16 0, .int .u16 0, .int .u16 0, .int .u16 0, .int .i16 0, .int .i16 0, .int .i16 0, .int .i16 0, .int .i16 0, .int .i16 0, .int .i16 0, .int .i16 0, .int .i32 0, .int .i32 0, .int .i32 0, .int .i32 0, .int .u16 0, .slice none 0 0, .slice none 0 0, .slice none 0 0, .int .u32 0, .slice none 0 0, .slice none 0 0], .int .i64 0], []⟩ 8 (by kernel_rfl) (by kernel_rfl) (by kernel_rfl) (by kernel_rfl)) ?_
  intro W base args ds gs before hval0 hW hcnd hsz0 _
  have hval : ∀ (j : Nat) t v, Try.f3.params[j]? = some t → args[j]? = some v → Value.okWide Try.prog W .any base t v := hval0
  have hW' := hW
  obtain ⟨p, q, hA0, hV, rfl, hfz, hnd⟩ := hW
  have hA : DataW.TrodAll enc Try.prog W 0 (fun _ => true) true Try.f3.params.toList args.toList ds p := hA0
  rw [Try.params3] at hA hval
  obtain ⟨v0, vs0, d0, ds0, p0, q0, hargs, rfl, rfl, h0, r0⟩ := trodAll_cons hA
  obtain ⟨v1, vs1, d1, ds1, p1, q1, rfl, rfl, rfl, h1, r1⟩ := trodAll_cons r0
  obtain ⟨rfl, rfl, rfl⟩ := trodAll_nil r1
  obtain rfl : args = #[v0, v1] := by cases args; simp_all
  obtain ⟨rfl, rfl⟩ := trodVars_none hV
  have k0 := h0
  have lt0 : ∀ x ∈ p0, x.block < W.heap.size := by obtain ⟨m, hm⟩ := k0; exact DataW.trod_lt m _ _ _ hm
  obtain ⟨cs0, rfl, hsz0⟩ := okWide_struct Try.underlying36 (hval 0 36 v0 rfl rfl)
  obtain ⟨lc0⟩ := cs0
  obtain ⟨fu0, hf0⟩ := h0
  simp only [Value.cells] at hf0
  obtain ⟨b0_0, b0_1, b0_2, b0_3, b0_4, b0_5, b0_6, b0_7, b0_8, b0_9, b0_10, b0_11, b0_12, b0_13, b0_14, b0_15, b0_16, b0_17, b0_18, b0_19, b0_20, b0_21, b0_22, b0_23, b0_24, b0_25, b0_26, b0_27, b0_28, b0_29, b0_30, b0_31, b0_32, b0_33, b0_34, b0_35, b0_36, b0_37, b0_38, b0_39, b0_40, b0_41, b0_42, b0_43, b0_44, b0_45, b0_46, b0_47, b0_48, rfl, w0_0, w0_1, w0_2, w0_3, w0_4, w0_5, w0_6, w0_7, w0_8, w0_9, w0_10, w0_11, w0_12, w0_13, w0_14, w0_15, w0_16, w0_17, w0_18, w0_19, w0_20, w0_21, w0_22, w0_23, w0_24, w0_25, w0_26, w0_27, w0_28, w0_29, w0_30, w0_31, w0_32, w0_33, w0_34, w0_35, w0_36, w0_37, w0_38, w0_39, w0_40, w0_41, w0_42, w0_43, w0_44, w0_45, w0_46⟩ := elt36 (hsz0.trans z36) hf0
  have k1 := h1
  have lt1 : ∀ x ∈ p1, x.block < W.heap.size := by obtain ⟨m, hm⟩ := k1; exact DataW.trod_lt m _ _ _ hm
  obtain ⟨b1, rfl, _, _, w1⟩ := open_int Try.underlying3 (hval 1 3 v1 rfl rfl) h1
  clear hA0 hval0 hsz0
  refine (Oe.draws_law b0_0 b0_1 b0_2 b0_3 b0_4 b0_5 b0_6 b0_7 b0_8 b0_9 b0_10 b0_11 b0_12 b0_13 b0_14 b0_15 b0_16 b0_17 b0_18 b0_19 b0_20 b0_21 b0_22 b0_23 b0_24 b0_25 b0_26 b0_27 b0_28 b0_29 b0_30 b0_31 b0_32 b0_33 b0_34 b0_35 b0_36 b0_37 b0_38 b0_39 b0_40 b0_41 b0_42 b0_43 b0_44 b0_45 b0_46 b0_47 b0_48 b1 W w0_0 w0_1 w0_2 w0_3 w0_4 w0_5 w0_6 w0_7 w0_8 w0_9 w0_10 w0_11 w0_12 w0_13 w0_14 w0_15 w0_16 w0_17 w0_18 w0_19 w0_20 w0_21 w0_22 w0_23 w0_24 w0_25 w0_26 w0_27 w0_28 w0_29 w0_30 w0_31 w0_32 w0_33 w0_34 w0_35 w0_36 w0_37 w0_38 w0_39 w0_40 w0_41 w0_42 w0_43 w0_44 w0_45 w0_46 w1).mono fun e W' ⟨he, bel⟩ => ?_
  subst he
  exact ⟨_, rfl, _, _, _, [], _, [], hW', trodAll_mk1 (shut_bool Try.underlying4 _), (trodAll_cons_mk (Below.trod laidOut (by kernel_rfl) (of_decide_eq_true (by kernel_rfl)) k0 bel lt0) (trodAll_cons_mk (Below.trod laidOut (by kernel_rfl) (of_decide_eq_true (by kernel_rfl)) k1 bel lt1) trodAll_mk0)), rfl, bel.frame _, fun h => by cases h⟩
theorem over : Rows.objDrawsRow.holds Try.pinned (OpenSpec.ofChange Rows.objDrawsSpec) :=
  OpenClaim.holds_of_wide 3 Try.f3 rfl rfl rfl rfl rfl rfl rfl ⟨rfl, rfl, rfl, rfl, rfl⟩ rfl rfl rfl rfl rfl (by kernel_rfl) Try.func3 (by kernel_rfl)
    (of_decide_eq_true (by kernel_rfl)) (by unfold Func.isWrapper; first | (rw [if_pos (by decide +kernel)]; kernel_rfl) | (rw [if_neg (by decide +kernel)]; exact ⟨rfl, rfl⟩))
    (fun os started H enc _ => lifted os started H enc)
theorem proved : Rows.ObjDrawsSaid := over
end Go.Proofs.Ythbpcenobaloaaa.objDraws
namespace Go.Proofs.Ythbpcenobaloaaa
theorem objDraws_holds : Rows.ObjDrawsSaid := objDraws.proved
#print axioms objDraws_holds
end Go.Proofs.Ythbpcenobaloaaa
