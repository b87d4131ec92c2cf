/-
  No cell of these rows narrows 'for every input' (looked for: loops, veiled, ifaces, maps, wideKeys, modest, calm, conditions, laid).
  DERIVED. THE GIVEN ROWS OF THIS SEAT. 4 by the template 'for every input the law returns true; each argument reads behind the call as it read before'; 0 by the template 'total and deterministic' (their statements: YthbpcenobaloaaaTotals.lean).
  GIVEN WITH THE SEED: the statements are not yours to turn. If you find one false, say at which input.
  Laid BY PROGRAM, IN A SANDBOX (cutbox-rows.mjs): the forced cells as the released guide's own fill.sh prints them over the translation 3ac1416a3037def1… (all of the seat's roots in one cut). By AI agents, Wed Nov 11 2026. No macro, syntax, notation, axiom, sorry.
-/
import Derived.Test.YthbpcenobaloaaaChecked
import GoSem.Claim
import GoSem.ClaimJoined
import GoSem.ClaimMapViews
import Derived.JoinedTies
import Derived.KernelRfl
namespace Go.Proofs.Ythbpcenobaloaaa
/- THE CELL 'sum', in the pinned program and in every row, IS THE sha256 OF THE DUMP (.gsa) THAT YthbpcenobaloaaaProg.lean LOADS. Nothing in Lean hashes anything: it is a label: what it is worth is what the hold of that sum in a sandbox is worth. -/
noncomputable def Try.pinned : Pinned := { name := "ythbpcenobaloaaa", sum := "3ac1416a3037def13e3c000fc22b1af11ff529a8c3f033c1061d04c6e2248807", checked := Try.checked }
namespace Rows
def none {H : Type} : Left H := { results := [], args := [] }

/-- 'cameolaw20.ObjDraws': WHATEVER THE INPUT: true; the input reads as it did. -/
def objDrawsSpec : ChangeSpec := { name := "objDraws", fn := fun _ => fun
  | [d1, d2] => { results := [.lit (.bool true)], args := [d1, d2] }
  | _ => none }
def objDrawsRow : OpenClaim := { program := "ythbpcenobaloaaa", sum := "3ac1416a3037def13e3c000fc22b1af11ff529a8c3f033c1061d04c6e2248807", func := "cameo/cameolaw20.ObjDraws", spec := "objDraws", apart := false }
def ObjDrawsSaid : Prop := objDrawsRow.holds Try.pinned (OpenSpec.ofChange objDrawsSpec)

/-- ITS FALSE NEIGHBOUR: 'it returns false'. Refute it at one input. -/
def objDrawsWrong : ChangeSpec := { name := "objDraws", fn := fun _ => fun
  | [d1, d2] => { results := [.lit (.bool false)], args := [d1, d2] }
  | _ => none }
def ObjDrawsWrongFalsely : Prop := objDrawsRow.holds Try.pinned (OpenSpec.ofChange objDrawsWrong)

/-- 'cameolaw20.ObjShort': WHATEVER THE INPUT: true; the input reads as it did. -/
def objShortSpec : ChangeSpec := { name := "objShort", fn := fun _ => fun
  | [d1, d2] => { results := [.lit (.bool true)], args := [d1, d2] }
  | _ => none }
def objShortRow : OpenClaim := { program := "ythbpcenobaloaaa", sum := "3ac1416a3037def13e3c000fc22b1af11ff529a8c3f033c1061d04c6e2248807", func := "cameo/cameolaw20.ObjShort", spec := "objShort", apart := false }
def ObjShortSaid : Prop := objShortRow.holds Try.pinned (OpenSpec.ofChange objShortSpec)

/-- ITS FALSE NEIGHBOUR: 'it returns false'. Refute it at one input. -/
def objShortWrong : ChangeSpec := { name := "objShort", fn := fun _ => fun
  | [d1, d2] => { results := [.lit (.bool false)], args := [d1, d2] }
  | _ => none }
def ObjShortWrongFalsely : Prop := objShortRow.holds Try.pinned (OpenSpec.ofChange objShortWrong)

/-- 'cameolaw20.ObjBudget': WHATEVER THE INPUT: true; the input reads as it did. -/
def objBudgetSpec : ChangeSpec := { name := "objBudget", fn := fun _ => fun
  | [d1, d2, d3] => { results := [.lit (.bool true)], args := [d1, d2, d3] }
  | _ => none }
def objBudgetRow : OpenClaim := { program := "ythbpcenobaloaaa", sum := "3ac1416a3037def13e3c000fc22b1af11ff529a8c3f033c1061d04c6e2248807", func := "cameo/cameolaw20.ObjBudget", spec := "objBudget", apart := false }
def ObjBudgetSaid : Prop := objBudgetRow.holds Try.pinned (OpenSpec.ofChange objBudgetSpec)

/-- ITS FALSE NEIGHBOUR: 'it returns false'. Refute it at one input. -/
def objBudgetWrong : ChangeSpec := { name := "objBudget", fn := fun _ => fun
  | [d1, d2, d3] => { results := [.lit (.bool false)], args := [d1, d2, d3] }
  | _ => none }
def ObjBudgetWrongFalsely : Prop := objBudgetRow.holds Try.pinned (OpenSpec.ofChange objBudgetWrong)

/-- 'cameolaw20.ObjPlain': WHATEVER THE INPUT: true; the input reads as it did. -/
def objPlainSpec : ChangeSpec := { name := "objPlain", fn := fun _ => fun
  | [d1, d2] => { results := [.lit (.bool true)], args := [d1, d2] }
  | _ => none }
def objPlainRow : OpenClaim := { program := "ythbpcenobaloaaa", sum := "3ac1416a3037def13e3c000fc22b1af11ff529a8c3f033c1061d04c6e2248807", func := "cameo/cameolaw20.ObjPlain", spec := "objPlain", apart := false }
def ObjPlainSaid : Prop := objPlainRow.holds Try.pinned (OpenSpec.ofChange objPlainSpec)

/-- ITS FALSE NEIGHBOUR: 'it returns false'. Refute it at one input. -/
def objPlainWrong : ChangeSpec := { name := "objPlain", fn := fun _ => fun
  | [d1, d2] => { results := [.lit (.bool false)], args := [d1, d2] }
  | _ => none }
def ObjPlainWrongFalsely : Prop := objPlainRow.holds Try.pinned (OpenSpec.ofChange objPlainWrong)

/- THE SECOND FORM. 'bulk': how many values and letters a reading holds, each counted each time it is reached (what is shared counts as often as it is met; a slice's spare places count too). A statement '..UptoSaid' is the law's where the arguments, and the package variables that the reading takes, are together of bulk at most 1048576: NARROWER than '..Said'. Prove '..Said' where nothing that the law and all that it calls make is longer than what came in: it says more and counts as full. Else prove '..UptoSaid'. A law counts once. -/
mutual
def uptoBulk {H : Type} : DataW H → Nat
  | .lit (.string bytes) => bytes.length + 1
  | .lit _ => 1
  | .nil => 1
  | .ptr d => uptoBulk d + 1
  | .slice elems spare => uptoBulkAll elems + uptoBulkAll spare + 1
  | .agg parts => uptoBulkAll parts + 1
  | .iface _ d => uptoBulk d + 1
  | .map entries => uptoBulkEntries entries + 1
  | .held _ => 1
def uptoBulkAll {H : Type} : List (DataW H) → Nat
  | [] => 0
  | d :: r => uptoBulk d + uptoBulkAll r
def uptoBulkEntries {H : Type} : List (Lit × DataW H) → Nat
  | [] => 0
  | x :: r => uptoBulkEntry x + uptoBulkEntries r
def uptoBulkEntry {H : Type} : Lit × DataW H → Nat
  | (.string bytes, d) => bytes.length + uptoBulk d + 1
  | (_, d) => uptoBulk d + 1
 end
def uptoSmall : (H : Type) → List (DataW H) → Bool := fun _ ds => decide (uptoBulkAll ds ≤ 1048576)
def OpenSpec.upto (s : _root_.Go.ChangeSpec) : _root_.Go.OpenSpec := { _root_.Go.OpenSpec.ofChange s with cond := some uptoSmall }

/-- 'cameolaw20.ObjDraws', WHERE WHAT IT READS IS OF BULK AT MOST 1048576: true; the input reads as it did. -/
def objDrawsUptoRow : OpenClaim := { program := "ythbpcenobaloaaa", sum := "3ac1416a3037def13e3c000fc22b1af11ff529a8c3f033c1061d04c6e2248807", func := "cameo/cameolaw20.ObjDraws", spec := "objDraws", apart := false, narrowed := true }
def ObjDrawsUptoSaid : Prop := objDrawsUptoRow.holds Try.pinned (OpenSpec.upto objDrawsSpec)

/-- 'cameolaw20.ObjShort', WHERE WHAT IT READS IS OF BULK AT MOST 1048576: true; the input reads as it did. -/
def objShortUptoRow : OpenClaim := { program := "ythbpcenobaloaaa", sum := "3ac1416a3037def13e3c000fc22b1af11ff529a8c3f033c1061d04c6e2248807", func := "cameo/cameolaw20.ObjShort", spec := "objShort", apart := false, narrowed := true }
def ObjShortUptoSaid : Prop := objShortUptoRow.holds Try.pinned (OpenSpec.upto objShortSpec)

/-- 'cameolaw20.ObjBudget', WHERE WHAT IT READS IS OF BULK AT MOST 1048576: true; the input reads as it did. -/
def objBudgetUptoRow : OpenClaim := { program := "ythbpcenobaloaaa", sum := "3ac1416a3037def13e3c000fc22b1af11ff529a8c3f033c1061d04c6e2248807", func := "cameo/cameolaw20.ObjBudget", spec := "objBudget", apart := false, narrowed := true }
def ObjBudgetUptoSaid : Prop := objBudgetUptoRow.holds Try.pinned (OpenSpec.upto objBudgetSpec)

/-- 'cameolaw20.ObjPlain', WHERE WHAT IT READS IS OF BULK AT MOST 1048576: true; the input reads as it did. -/
def objPlainUptoRow : OpenClaim := { program := "ythbpcenobaloaaa", sum := "3ac1416a3037def13e3c000fc22b1af11ff529a8c3f033c1061d04c6e2248807", func := "cameo/cameolaw20.ObjPlain", spec := "objPlain", apart := false, narrowed := true }
def ObjPlainUptoSaid : Prop := objPlainUptoRow.holds Try.pinned (OpenSpec.upto objPlainSpec)

end Rows
end Go.Proofs.Ythbpcenobaloaaa
