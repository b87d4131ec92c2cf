/-
  No cell of these rows narrows 'for every input' (looked for: loops, veiled, ifaces, maps, wideKeys, modest, calm, conditions, laid).
  DERIVED. THE GIVEN ROWS OF THIS SEAT. 4 by the template 'for every input the law returns true; each argument reads behind the call as it read before'; 0 by the template 'total and deterministic' (their statements: YtmpphmlibcdnhaaTotals.lean).
  GIVEN WITH THE SEED: the statements are not yours to turn. If you find one false, say at which input.
  Laid BY PROGRAM, IN A SANDBOX (cutbox-rows.mjs): the forced cells as the released guide's own fill.sh prints them over the translation c8e1f09285be0a74… (all of the seat's roots in one cut). By AI agents, Wed Nov 11 2026. No macro, syntax, notation, axiom, sorry.
-/
import Derived.Test.YtmpphmlibcdnhaaChecked
import GoSem.Claim
import GoSem.ClaimJoined
import GoSem.ClaimMapViews
import Derived.JoinedTies
import Derived.KernelRfl
namespace Go.Proofs.Ytmpphmlibcdnhaa
/- THE CELL 'sum', in the pinned program and in every row, IS THE sha256 OF THE DUMP (.gsa) THAT YtmpphmlibcdnhaaProg.lean LOADS. Nothing in Lean hashes anything: it is a label: what it is worth is what the hold of that sum in a sandbox is worth. -/
noncomputable def Try.pinned : Pinned := { name := "ytmpphmlibcdnhaa", sum := "c8e1f09285be0a743a9c0a03012029a4aa0ca6cb5a1df0b9a4c0cdcad7d0175d", checked := Try.checked }
namespace Rows
def none {H : Type} : Left H := { results := [], args := [] }

/-- 'cameolaw15.IrqClears': WHATEVER THE INPUT: true; the input reads as it did. -/
def irqClearsSpec : ChangeSpec := { name := "irqClears", fn := fun _ => fun
  | [d1, d2] => { results := [.lit (.bool true)], args := [d1, d2] }
  | _ => none }
def irqClearsRow : OpenClaim := { program := "ytmpphmlibcdnhaa", sum := "c8e1f09285be0a743a9c0a03012029a4aa0ca6cb5a1df0b9a4c0cdcad7d0175d", func := "cameo/cameolaw15.IrqClears", spec := "irqClears", apart := false }
def IrqClearsSaid : Prop := irqClearsRow.holds Try.pinned (OpenSpec.ofChange irqClearsSpec)

/-- ITS FALSE NEIGHBOUR: 'it returns false'. Refute it at one input. -/
def irqClearsWrong : ChangeSpec := { name := "irqClears", fn := fun _ => fun
  | [d1, d2] => { results := [.lit (.bool false)], args := [d1, d2] }
  | _ => none }
def IrqClearsWrongFalsely : Prop := irqClearsRow.holds Try.pinned (OpenSpec.ofChange irqClearsWrong)

/-- 'cameolaw15.IrqRuns': WHATEVER THE INPUT: true; the input reads as it did. -/
def irqRunsSpec : ChangeSpec := { name := "irqRuns", fn := fun _ => fun
  | [d] => { results := [.lit (.bool true)], args := [d] }
  | _ => none }
def irqRunsRow : OpenClaim := { program := "ytmpphmlibcdnhaa", sum := "c8e1f09285be0a743a9c0a03012029a4aa0ca6cb5a1df0b9a4c0cdcad7d0175d", func := "cameo/cameolaw15.IrqRuns", spec := "irqRuns", apart := false }
def IrqRunsSaid : Prop := irqRunsRow.holds Try.pinned (OpenSpec.ofChange irqRunsSpec)

/-- ITS FALSE NEIGHBOUR: 'it returns false'. Refute it at one input. -/
def irqRunsWrong : ChangeSpec := { name := "irqRuns", fn := fun _ => fun
  | [d] => { results := [.lit (.bool false)], args := [d] }
  | _ => none }
def IrqRunsWrongFalsely : Prop := irqRunsRow.holds Try.pinned (OpenSpec.ofChange irqRunsWrong)

/-- 'cameolaw15.IrqNone': WHATEVER THE INPUT: true; the input reads as it did. -/
def irqNoneSpec : ChangeSpec := { name := "irqNone", fn := fun _ => fun
  | [d1, d2] => { results := [.lit (.bool true)], args := [d1, d2] }
  | _ => none }
def irqNoneRow : OpenClaim := { program := "ytmpphmlibcdnhaa", sum := "c8e1f09285be0a743a9c0a03012029a4aa0ca6cb5a1df0b9a4c0cdcad7d0175d", func := "cameo/cameolaw15.IrqNone", spec := "irqNone", apart := false }
def IrqNoneSaid : Prop := irqNoneRow.holds Try.pinned (OpenSpec.ofChange irqNoneSpec)

/-- ITS FALSE NEIGHBOUR: 'it returns false'. Refute it at one input. -/
def irqNoneWrong : ChangeSpec := { name := "irqNone", fn := fun _ => fun
  | [d1, d2] => { results := [.lit (.bool false)], args := [d1, d2] }
  | _ => none }
def IrqNoneWrongFalsely : Prop := irqNoneRow.holds Try.pinned (OpenSpec.ofChange irqNoneWrong)

/-- 'cameolaw15.IrqKeypad': WHATEVER THE INPUT: true; the input reads as it did. -/
def irqKeypadSpec : ChangeSpec := { name := "irqKeypad", fn := fun _ => fun
  | [d1, d2] => { results := [.lit (.bool true)], args := [d1, d2] }
  | _ => none }
def irqKeypadRow : OpenClaim := { program := "ytmpphmlibcdnhaa", sum := "c8e1f09285be0a743a9c0a03012029a4aa0ca6cb5a1df0b9a4c0cdcad7d0175d", func := "cameo/cameolaw15.IrqKeypad", spec := "irqKeypad", apart := false }
def IrqKeypadSaid : Prop := irqKeypadRow.holds Try.pinned (OpenSpec.ofChange irqKeypadSpec)

/-- ITS FALSE NEIGHBOUR: 'it returns false'. Refute it at one input. -/
def irqKeypadWrong : ChangeSpec := { name := "irqKeypad", fn := fun _ => fun
  | [d1, d2] => { results := [.lit (.bool false)], args := [d1, d2] }
  | _ => none }
def IrqKeypadWrongFalsely : Prop := irqKeypadRow.holds Try.pinned (OpenSpec.ofChange irqKeypadWrong)

/- THE SECOND FORM. 'bulk': how many values and letters a reading holds, each counted each time it is reached (what is shared counts as often as it is met; a slice's spare places count too). A statement '..UptoSaid' is the law's where the arguments, and the package variables that the reading takes, are together of bulk at most 1048576: NARROWER than '..Said'. Prove '..Said' where nothing that the law and all that it calls make is longer than what came in: it says more and counts as full. Else prove '..UptoSaid'. A law counts once. -/
mutual
def uptoBulk {H : Type} : DataW H → Nat
  | .lit (.string bytes) => bytes.length + 1
  | .lit _ => 1
  | .nil => 1
  | .ptr d => uptoBulk d + 1
  | .slice elems spare => uptoBulkAll elems + uptoBulkAll spare + 1
  | .agg parts => uptoBulkAll parts + 1
  | .iface _ d => uptoBulk d + 1
  | .map entries => uptoBulkEntries entries + 1
  | .held _ => 1
def uptoBulkAll {H : Type} : List (DataW H) → Nat
  | [] => 0
  | d :: r => uptoBulk d + uptoBulkAll r
def uptoBulkEntries {H : Type} : List (Lit × DataW H) → Nat
  | [] => 0
  | x :: r => uptoBulkEntry x + uptoBulkEntries r
def uptoBulkEntry {H : Type} : Lit × DataW H → Nat
  | (.string bytes, d) => bytes.length + uptoBulk d + 1
  | (_, d) => uptoBulk d + 1
 end
def uptoSmall : (H : Type) → List (DataW H) → Bool := fun _ ds => decide (uptoBulkAll ds ≤ 1048576)
def OpenSpec.upto (s : _root_.Go.ChangeSpec) : _root_.Go.OpenSpec := { _root_.Go.OpenSpec.ofChange s with cond := some uptoSmall }

/-- 'cameolaw15.IrqClears', WHERE WHAT IT READS IS OF BULK AT MOST 1048576: true; the input reads as it did. -/
def irqClearsUptoRow : OpenClaim := { program := "ytmpphmlibcdnhaa", sum := "c8e1f09285be0a743a9c0a03012029a4aa0ca6cb5a1df0b9a4c0cdcad7d0175d", func := "cameo/cameolaw15.IrqClears", spec := "irqClears", apart := false, narrowed := true }
def IrqClearsUptoSaid : Prop := irqClearsUptoRow.holds Try.pinned (OpenSpec.upto irqClearsSpec)

/-- 'cameolaw15.IrqRuns', WHERE WHAT IT READS IS OF BULK AT MOST 1048576: true; the input reads as it did. -/
def irqRunsUptoRow : OpenClaim := { program := "ytmpphmlibcdnhaa", sum := "c8e1f09285be0a743a9c0a03012029a4aa0ca6cb5a1df0b9a4c0cdcad7d0175d", func := "cameo/cameolaw15.IrqRuns", spec := "irqRuns", apart := false, narrowed := true }
def IrqRunsUptoSaid : Prop := irqRunsUptoRow.holds Try.pinned (OpenSpec.upto irqRunsSpec)

/-- 'cameolaw15.IrqNone', WHERE WHAT IT READS IS OF BULK AT MOST 1048576: true; the input reads as it did. -/
def irqNoneUptoRow : OpenClaim := { program := "ytmpphmlibcdnhaa", sum := "c8e1f09285be0a743a9c0a03012029a4aa0ca6cb5a1df0b9a4c0cdcad7d0175d", func := "cameo/cameolaw15.IrqNone", spec := "irqNone", apart := false, narrowed := true }
def IrqNoneUptoSaid : Prop := irqNoneUptoRow.holds Try.pinned (OpenSpec.upto irqNoneSpec)

/-- 'cameolaw15.IrqKeypad', WHERE WHAT IT READS IS OF BULK AT MOST 1048576: true; the input reads as it did. -/
def irqKeypadUptoRow : OpenClaim := { program := "ytmpphmlibcdnhaa", sum := "c8e1f09285be0a743a9c0a03012029a4aa0ca6cb5a1df0b9a4c0cdcad7d0175d", func := "cameo/cameolaw15.IrqKeypad", spec := "irqKeypad", apart := false, narrowed := true }
def IrqKeypadUptoSaid : Prop := irqKeypadUptoRow.holds Try.pinned (OpenSpec.upto irqKeypadSpec)

end Rows
end Go.Proofs.Ytmpphmlibcdnhaa
