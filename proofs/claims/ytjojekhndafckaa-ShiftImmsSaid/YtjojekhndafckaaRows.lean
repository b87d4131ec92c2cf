/-
  No cell of these rows narrows 'for every input' (looked for: loops, veiled, ifaces, maps, wideKeys, modest, calm, conditions, laid).
  DERIVED. THE GIVEN ROWS OF THIS SEAT. 5 by the template 'for every input the law returns true; each argument reads behind the call as it read before'; 0 by the template 'total and deterministic' (their statements: YtjojekhndafckaaTotals.lean).
  GIVEN WITH THE SEED: the statements are not yours to turn. If you find one false, say at which input.
  Laid BY PROGRAM, IN A SANDBOX (cutbox-rows.mjs): the forced cells as the released guide's own fill.sh prints them over the translation 4c3fbe6f79f2f640… (all of the seat's roots in one cut). By AI agents, Wed Nov 11 2026. No macro, syntax, notation, axiom, sorry.
-/
import Derived.Test.YtjojekhndafckaaChecked
import GoSem.Claim
import GoSem.ClaimJoined
import GoSem.ClaimMapViews
import Derived.JoinedTies
import Derived.KernelRfl
namespace Go.Proofs.Ytjojekhndafckaa
/- THE CELL 'sum', in the pinned program and in every row, IS THE sha256 OF THE DUMP (.gsa) THAT YtjojekhndafckaaProg.lean LOADS. Nothing in Lean hashes anything: it is a label: what it is worth is what the hold of that sum in a sandbox is worth. -/
noncomputable def Try.pinned : Pinned := { name := "ytjojekhndafckaa", sum := "4c3fbe6f79f2f640b839efdf25a5d228e15e4d09580783f62a3f6b349ecc7fac", checked := Try.checked }
namespace Rows
def none {H : Type} : Left H := { results := [], args := [] }

/-- 'cameolaw08.ShiftRegs': WHATEVER THE INPUT: true; the input reads as it did. -/
def shiftRegsSpec : ChangeSpec := { name := "shiftRegs", fn := fun _ => fun
  | [d] => { results := [.lit (.bool true)], args := [d] }
  | _ => none }
def shiftRegsRow : OpenClaim := { program := "ytjojekhndafckaa", sum := "4c3fbe6f79f2f640b839efdf25a5d228e15e4d09580783f62a3f6b349ecc7fac", func := "cameo/cameolaw08.ShiftRegs", spec := "shiftRegs", apart := false }
def ShiftRegsSaid : Prop := shiftRegsRow.holds Try.pinned (OpenSpec.ofChange shiftRegsSpec)

/-- ITS FALSE NEIGHBOUR: 'it returns false'. Refute it at one input. -/
def shiftRegsWrong : ChangeSpec := { name := "shiftRegs", fn := fun _ => fun
  | [d] => { results := [.lit (.bool false)], args := [d] }
  | _ => none }
def ShiftRegsWrongFalsely : Prop := shiftRegsRow.holds Try.pinned (OpenSpec.ofChange shiftRegsWrong)

/-- 'cameolaw08.ShiftImms': WHATEVER THE INPUT: true; the input reads as it did. -/
def shiftImmsSpec : ChangeSpec := { name := "shiftImms", fn := fun _ => fun
  | [d] => { results := [.lit (.bool true)], args := [d] }
  | _ => none }
def shiftImmsRow : OpenClaim := { program := "ytjojekhndafckaa", sum := "4c3fbe6f79f2f640b839efdf25a5d228e15e4d09580783f62a3f6b349ecc7fac", func := "cameo/cameolaw08.ShiftImms", spec := "shiftImms", apart := false }
def ShiftImmsSaid : Prop := shiftImmsRow.holds Try.pinned (OpenSpec.ofChange shiftImmsSpec)

/-- ITS FALSE NEIGHBOUR: 'it returns false'. Refute it at one input. -/
def shiftImmsWrong : ChangeSpec := { name := "shiftImms", fn := fun _ => fun
  | [d] => { results := [.lit (.bool false)], args := [d] }
  | _ => none }
def ShiftImmsWrongFalsely : Prop := shiftImmsRow.holds Try.pinned (OpenSpec.ofChange shiftImmsWrong)

/-- 'cameolaw08.ShiftSteps': WHATEVER THE INPUT: true; the input reads as it did. -/
def shiftStepsSpec : ChangeSpec := { name := "shiftSteps", fn := fun _ => fun
  | [d] => { results := [.lit (.bool true)], args := [d] }
  | _ => none }
def shiftStepsRow : OpenClaim := { program := "ytjojekhndafckaa", sum := "4c3fbe6f79f2f640b839efdf25a5d228e15e4d09580783f62a3f6b349ecc7fac", func := "cameo/cameolaw08.ShiftSteps", spec := "shiftSteps", apart := false }
def ShiftStepsSaid : Prop := shiftStepsRow.holds Try.pinned (OpenSpec.ofChange shiftStepsSpec)

/-- ITS FALSE NEIGHBOUR: 'it returns false'. Refute it at one input. -/
def shiftStepsWrong : ChangeSpec := { name := "shiftSteps", fn := fun _ => fun
  | [d] => { results := [.lit (.bool false)], args := [d] }
  | _ => none }
def ShiftStepsWrongFalsely : Prop := shiftStepsRow.holds Try.pinned (OpenSpec.ofChange shiftStepsWrong)

/-- 'cameolaw08.ShiftRound': WHATEVER THE INPUT: true; the input reads as it did. -/
def shiftRoundSpec : ChangeSpec := { name := "shiftRound", fn := fun _ => fun
  | [d1, d2] => { results := [.lit (.bool true)], args := [d1, d2] }
  | _ => none }
def shiftRoundRow : OpenClaim := { program := "ytjojekhndafckaa", sum := "4c3fbe6f79f2f640b839efdf25a5d228e15e4d09580783f62a3f6b349ecc7fac", func := "cameo/cameolaw08.ShiftRound", spec := "shiftRound", apart := false }
def ShiftRoundSaid : Prop := shiftRoundRow.holds Try.pinned (OpenSpec.ofChange shiftRoundSpec)

/-- ITS FALSE NEIGHBOUR: 'it returns false'. Refute it at one input. -/
def shiftRoundWrong : ChangeSpec := { name := "shiftRound", fn := fun _ => fun
  | [d1, d2] => { results := [.lit (.bool false)], args := [d1, d2] }
  | _ => none }
def ShiftRoundWrongFalsely : Prop := shiftRoundRow.holds Try.pinned (OpenSpec.ofChange shiftRoundWrong)

/-- 'cameolaw08.ShiftTimes': WHATEVER THE INPUT: true; the input reads as it did. -/
def shiftTimesSpec : ChangeSpec := { name := "shiftTimes", fn := fun _ => fun
  | [d1, d2] => { results := [.lit (.bool true)], args := [d1, d2] }
  | _ => none }
def shiftTimesRow : OpenClaim := { program := "ytjojekhndafckaa", sum := "4c3fbe6f79f2f640b839efdf25a5d228e15e4d09580783f62a3f6b349ecc7fac", func := "cameo/cameolaw08.ShiftTimes", spec := "shiftTimes", apart := false }
def ShiftTimesSaid : Prop := shiftTimesRow.holds Try.pinned (OpenSpec.ofChange shiftTimesSpec)

/-- ITS FALSE NEIGHBOUR: 'it returns false'. Refute it at one input. -/
def shiftTimesWrong : ChangeSpec := { name := "shiftTimes", fn := fun _ => fun
  | [d1, d2] => { results := [.lit (.bool false)], args := [d1, d2] }
  | _ => none }
def ShiftTimesWrongFalsely : Prop := shiftTimesRow.holds Try.pinned (OpenSpec.ofChange shiftTimesWrong)

/- THE SECOND FORM. 'bulk': how many values and letters a reading holds, each counted each time it is reached (what is shared counts as often as it is met; a slice's spare places count too). A statement '..UptoSaid' is the law's where the arguments, and the package variables that the reading takes, are together of bulk at most 1048576: NARROWER than '..Said'. Prove '..Said' where nothing that the law and all that it calls make is longer than what came in: it says more and counts as full. Else prove '..UptoSaid'. A law counts once. -/
mutual
def uptoBulk {H : Type} : DataW H → Nat
  | .lit (.string bytes) => bytes.length + 1
  | .lit _ => 1
  | .nil => 1
  | .ptr d => uptoBulk d + 1
  | .slice elems spare => uptoBulkAll elems + uptoBulkAll spare + 1
  | .agg parts => uptoBulkAll parts + 1
  | .iface _ d => uptoBulk d + 1
  | .map entries => uptoBulkEntries entries + 1
  | .held _ => 1
def uptoBulkAll {H : Type} : List (DataW H) → Nat
  | [] => 0
  | d :: r => uptoBulk d + uptoBulkAll r
def uptoBulkEntries {H : Type} : List (Lit × DataW H) → Nat
  | [] => 0
  | x :: r => uptoBulkEntry x + uptoBulkEntries r
def uptoBulkEntry {H : Type} : Lit × DataW H → Nat
  | (.string bytes, d) => bytes.length + uptoBulk d + 1
  | (_, d) => uptoBulk d + 1
 end
def uptoSmall : (H : Type) → List (DataW H) → Bool := fun _ ds => decide (uptoBulkAll ds ≤ 1048576)
def OpenSpec.upto (s : _root_.Go.ChangeSpec) : _root_.Go.OpenSpec := { _root_.Go.OpenSpec.ofChange s with cond := some uptoSmall }

/-- 'cameolaw08.ShiftRegs', WHERE WHAT IT READS IS OF BULK AT MOST 1048576: true; the input reads as it did. -/
def shiftRegsUptoRow : OpenClaim := { program := "ytjojekhndafckaa", sum := "4c3fbe6f79f2f640b839efdf25a5d228e15e4d09580783f62a3f6b349ecc7fac", func := "cameo/cameolaw08.ShiftRegs", spec := "shiftRegs", apart := false, narrowed := true }
def ShiftRegsUptoSaid : Prop := shiftRegsUptoRow.holds Try.pinned (OpenSpec.upto shiftRegsSpec)

/-- 'cameolaw08.ShiftImms', WHERE WHAT IT READS IS OF BULK AT MOST 1048576: true; the input reads as it did. -/
def shiftImmsUptoRow : OpenClaim := { program := "ytjojekhndafckaa", sum := "4c3fbe6f79f2f640b839efdf25a5d228e15e4d09580783f62a3f6b349ecc7fac", func := "cameo/cameolaw08.ShiftImms", spec := "shiftImms", apart := false, narrowed := true }
def ShiftImmsUptoSaid : Prop := shiftImmsUptoRow.holds Try.pinned (OpenSpec.upto shiftImmsSpec)

/-- 'cameolaw08.ShiftSteps', WHERE WHAT IT READS IS OF BULK AT MOST 1048576: true; the input reads as it did. -/
def shiftStepsUptoRow : OpenClaim := { program := "ytjojekhndafckaa", sum := "4c3fbe6f79f2f640b839efdf25a5d228e15e4d09580783f62a3f6b349ecc7fac", func := "cameo/cameolaw08.ShiftSteps", spec := "shiftSteps", apart := false, narrowed := true }
def ShiftStepsUptoSaid : Prop := shiftStepsUptoRow.holds Try.pinned (OpenSpec.upto shiftStepsSpec)

/-- 'cameolaw08.ShiftRound', WHERE WHAT IT READS IS OF BULK AT MOST 1048576: true; the input reads as it did. -/
def shiftRoundUptoRow : OpenClaim := { program := "ytjojekhndafckaa", sum := "4c3fbe6f79f2f640b839efdf25a5d228e15e4d09580783f62a3f6b349ecc7fac", func := "cameo/cameolaw08.ShiftRound", spec := "shiftRound", apart := false, narrowed := true }
def ShiftRoundUptoSaid : Prop := shiftRoundUptoRow.holds Try.pinned (OpenSpec.upto shiftRoundSpec)

/-- 'cameolaw08.ShiftTimes', WHERE WHAT IT READS IS OF BULK AT MOST 1048576: true; the input reads as it did. -/
def shiftTimesUptoRow : OpenClaim := { program := "ytjojekhndafckaa", sum := "4c3fbe6f79f2f640b839efdf25a5d228e15e4d09580783f62a3f6b349ecc7fac", func := "cameo/cameolaw08.ShiftTimes", spec := "shiftTimes", apart := false, narrowed := true }
def ShiftTimesUptoSaid : Prop := shiftTimesUptoRow.holds Try.pinned (OpenSpec.upto shiftTimesSpec)

end Rows
end Go.Proofs.Ytjojekhndafckaa
