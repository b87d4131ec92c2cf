/-
  No cell of these rows narrows 'for every input' (looked for: loops, veiled, ifaces, maps, wideKeys, modest, calm, conditions, laid).
  DERIVED. THE GIVEN ROWS OF THIS SEAT. 5 by the template 'for every input the law returns true; each argument reads behind the call as it read before'; 0 by the template 'total and deterministic' (their statements: YtajbankfnnlocaaTotals.lean).
  GIVEN WITH THE SEED: the statements are not yours to turn. If you find one false, say at which input.
  Laid BY PROGRAM, IN A SANDBOX (cutbox-rows.mjs): the forced cells as the released guide's own fill.sh prints them over the translation d9eda15589e32f5d… (all of the seat's roots in one cut). By AI agents, Wed Nov 11 2026. No macro, syntax, notation, axiom, sorry.
-/
import Derived.Test.YtajbankfnnlocaaChecked
import GoSem.Claim
import GoSem.ClaimJoined
import GoSem.ClaimMapViews
import Derived.JoinedTies
import Derived.KernelRfl
namespace Go.Proofs.Ytajbankfnnlocaa
/- THE CELL 'sum', in the pinned program and in every row, IS THE sha256 OF THE DUMP (.gsa) THAT YtajbankfnnlocaaProg.lean LOADS. Nothing in Lean hashes anything: it is a label: what it is worth is what the hold of that sum in a sandbox is worth. -/
noncomputable def Try.pinned : Pinned := { name := "ytajbankfnnlocaa", sum := "d9eda15589e32f5d06e9fc8deafb006d691c9ceadccfaaeea69941c2e96edda2", checked := Try.checked }
namespace Rows
def none {H : Type} : Left H := { results := [], args := [] }

/-- 'cameolaw10.BankAll': WHATEVER THE INPUT: true; the input reads as it did. -/
def bankAllSpec : ChangeSpec := { name := "bankAll", fn := fun _ => fun
  | [d] => { results := [.lit (.bool true)], args := [d] }
  | _ => none }
def bankAllRow : OpenClaim := { program := "ytajbankfnnlocaa", sum := "d9eda15589e32f5d06e9fc8deafb006d691c9ceadccfaaeea69941c2e96edda2", func := "cameo/cameolaw10.BankAll", spec := "bankAll", apart := false }
def BankAllSaid : Prop := bankAllRow.holds Try.pinned (OpenSpec.ofChange bankAllSpec)

/-- ITS FALSE NEIGHBOUR: 'it returns false'. Refute it at one input. -/
def bankAllWrong : ChangeSpec := { name := "bankAll", fn := fun _ => fun
  | [d] => { results := [.lit (.bool false)], args := [d] }
  | _ => none }
def BankAllWrongFalsely : Prop := bankAllRow.holds Try.pinned (OpenSpec.ofChange bankAllWrong)

/-- 'cameolaw10.BankRuns': WHATEVER THE INPUT: true; the input reads as it did. -/
def bankRunsSpec : ChangeSpec := { name := "bankRuns", fn := fun _ => fun
  | [d] => { results := [.lit (.bool true)], args := [d] }
  | _ => none }
def bankRunsRow : OpenClaim := { program := "ytajbankfnnlocaa", sum := "d9eda15589e32f5d06e9fc8deafb006d691c9ceadccfaaeea69941c2e96edda2", func := "cameo/cameolaw10.BankRuns", spec := "bankRuns", apart := false }
def BankRunsSaid : Prop := bankRunsRow.holds Try.pinned (OpenSpec.ofChange bankRunsSpec)

/-- ITS FALSE NEIGHBOUR: 'it returns false'. Refute it at one input. -/
def bankRunsWrong : ChangeSpec := { name := "bankRuns", fn := fun _ => fun
  | [d] => { results := [.lit (.bool false)], args := [d] }
  | _ => none }
def BankRunsWrongFalsely : Prop := bankRunsRow.holds Try.pinned (OpenSpec.ofChange bankRunsWrong)

/-- 'cameolaw10.BankKeeps': WHATEVER THE INPUT: true; the input reads as it did. -/
def bankKeepsSpec : ChangeSpec := { name := "bankKeeps", fn := fun _ => fun
  | [d1, d2, d3] => { results := [.lit (.bool true)], args := [d1, d2, d3] }
  | _ => none }
def bankKeepsRow : OpenClaim := { program := "ytajbankfnnlocaa", sum := "d9eda15589e32f5d06e9fc8deafb006d691c9ceadccfaaeea69941c2e96edda2", func := "cameo/cameolaw10.BankKeeps", spec := "bankKeeps", apart := false }
def BankKeepsSaid : Prop := bankKeepsRow.holds Try.pinned (OpenSpec.ofChange bankKeepsSpec)

/-- ITS FALSE NEIGHBOUR: 'it returns false'. Refute it at one input. -/
def bankKeepsWrong : ChangeSpec := { name := "bankKeeps", fn := fun _ => fun
  | [d1, d2, d3] => { results := [.lit (.bool false)], args := [d1, d2, d3] }
  | _ => none }
def BankKeepsWrongFalsely : Prop := bankKeepsRow.holds Try.pinned (OpenSpec.ofChange bankKeepsWrong)

/-- 'cameolaw10.BankEnters': WHATEVER THE INPUT: true; the input reads as it did. -/
def bankEntersSpec : ChangeSpec := { name := "bankEnters", fn := fun _ => fun
  | [d1, d2, d3] => { results := [.lit (.bool true)], args := [d1, d2, d3] }
  | _ => none }
def bankEntersRow : OpenClaim := { program := "ytajbankfnnlocaa", sum := "d9eda15589e32f5d06e9fc8deafb006d691c9ceadccfaaeea69941c2e96edda2", func := "cameo/cameolaw10.BankEnters", spec := "bankEnters", apart := false }
def BankEntersSaid : Prop := bankEntersRow.holds Try.pinned (OpenSpec.ofChange bankEntersSpec)

/-- ITS FALSE NEIGHBOUR: 'it returns false'. Refute it at one input. -/
def bankEntersWrong : ChangeSpec := { name := "bankEnters", fn := fun _ => fun
  | [d1, d2, d3] => { results := [.lit (.bool false)], args := [d1, d2, d3] }
  | _ => none }
def BankEntersWrongFalsely : Prop := bankEntersRow.holds Try.pinned (OpenSpec.ofChange bankEntersWrong)

/-- 'cameolaw10.BankFlags': WHATEVER THE INPUT: true; the input reads as it did. -/
def bankFlagsSpec : ChangeSpec := { name := "bankFlags", fn := fun _ => fun
  | [d1, d2] => { results := [.lit (.bool true)], args := [d1, d2] }
  | _ => none }
def bankFlagsRow : OpenClaim := { program := "ytajbankfnnlocaa", sum := "d9eda15589e32f5d06e9fc8deafb006d691c9ceadccfaaeea69941c2e96edda2", func := "cameo/cameolaw10.BankFlags", spec := "bankFlags", apart := false }
def BankFlagsSaid : Prop := bankFlagsRow.holds Try.pinned (OpenSpec.ofChange bankFlagsSpec)

/-- ITS FALSE NEIGHBOUR: 'it returns false'. Refute it at one input. -/
def bankFlagsWrong : ChangeSpec := { name := "bankFlags", fn := fun _ => fun
  | [d1, d2] => { results := [.lit (.bool false)], args := [d1, d2] }
  | _ => none }
def BankFlagsWrongFalsely : Prop := bankFlagsRow.holds Try.pinned (OpenSpec.ofChange bankFlagsWrong)

/- THE SECOND FORM. 'bulk': how many values and letters a reading holds, each counted each time it is reached (what is shared counts as often as it is met; a slice's spare places count too). A statement '..UptoSaid' is the law's where the arguments, and the package variables that the reading takes, are together of bulk at most 1048576: NARROWER than '..Said'. Prove '..Said' where nothing that the law and all that it calls make is longer than what came in: it says more and counts as full. Else prove '..UptoSaid'. A law counts once. -/
mutual
def uptoBulk {H : Type} : DataW H → Nat
  | .lit (.string bytes) => bytes.length + 1
  | .lit _ => 1
  | .nil => 1
  | .ptr d => uptoBulk d + 1
  | .slice elems spare => uptoBulkAll elems + uptoBulkAll spare + 1
  | .agg parts => uptoBulkAll parts + 1
  | .iface _ d => uptoBulk d + 1
  | .map entries => uptoBulkEntries entries + 1
  | .held _ => 1
def uptoBulkAll {H : Type} : List (DataW H) → Nat
  | [] => 0
  | d :: r => uptoBulk d + uptoBulkAll r
def uptoBulkEntries {H : Type} : List (Lit × DataW H) → Nat
  | [] => 0
  | x :: r => uptoBulkEntry x + uptoBulkEntries r
def uptoBulkEntry {H : Type} : Lit × DataW H → Nat
  | (.string bytes, d) => bytes.length + uptoBulk d + 1
  | (_, d) => uptoBulk d + 1
 end
def uptoSmall : (H : Type) → List (DataW H) → Bool := fun _ ds => decide (uptoBulkAll ds ≤ 1048576)
def OpenSpec.upto (s : _root_.Go.ChangeSpec) : _root_.Go.OpenSpec := { _root_.Go.OpenSpec.ofChange s with cond := some uptoSmall }

/-- 'cameolaw10.BankAll', WHERE WHAT IT READS IS OF BULK AT MOST 1048576: true; the input reads as it did. -/
def bankAllUptoRow : OpenClaim := { program := "ytajbankfnnlocaa", sum := "d9eda15589e32f5d06e9fc8deafb006d691c9ceadccfaaeea69941c2e96edda2", func := "cameo/cameolaw10.BankAll", spec := "bankAll", apart := false, narrowed := true }
def BankAllUptoSaid : Prop := bankAllUptoRow.holds Try.pinned (OpenSpec.upto bankAllSpec)

/-- 'cameolaw10.BankRuns', WHERE WHAT IT READS IS OF BULK AT MOST 1048576: true; the input reads as it did. -/
def bankRunsUptoRow : OpenClaim := { program := "ytajbankfnnlocaa", sum := "d9eda15589e32f5d06e9fc8deafb006d691c9ceadccfaaeea69941c2e96edda2", func := "cameo/cameolaw10.BankRuns", spec := "bankRuns", apart := false, narrowed := true }
def BankRunsUptoSaid : Prop := bankRunsUptoRow.holds Try.pinned (OpenSpec.upto bankRunsSpec)

/-- 'cameolaw10.BankKeeps', WHERE WHAT IT READS IS OF BULK AT MOST 1048576: true; the input reads as it did. -/
def bankKeepsUptoRow : OpenClaim := { program := "ytajbankfnnlocaa", sum := "d9eda15589e32f5d06e9fc8deafb006d691c9ceadccfaaeea69941c2e96edda2", func := "cameo/cameolaw10.BankKeeps", spec := "bankKeeps", apart := false, narrowed := true }
def BankKeepsUptoSaid : Prop := bankKeepsUptoRow.holds Try.pinned (OpenSpec.upto bankKeepsSpec)

/-- 'cameolaw10.BankEnters', WHERE WHAT IT READS IS OF BULK AT MOST 1048576: true; the input reads as it did. -/
def bankEntersUptoRow : OpenClaim := { program := "ytajbankfnnlocaa", sum := "d9eda15589e32f5d06e9fc8deafb006d691c9ceadccfaaeea69941c2e96edda2", func := "cameo/cameolaw10.BankEnters", spec := "bankEnters", apart := false, narrowed := true }
def BankEntersUptoSaid : Prop := bankEntersUptoRow.holds Try.pinned (OpenSpec.upto bankEntersSpec)

/-- 'cameolaw10.BankFlags', WHERE WHAT IT READS IS OF BULK AT MOST 1048576: true; the input reads as it did. -/
def bankFlagsUptoRow : OpenClaim := { program := "ytajbankfnnlocaa", sum := "d9eda15589e32f5d06e9fc8deafb006d691c9ceadccfaaeea69941c2e96edda2", func := "cameo/cameolaw10.BankFlags", spec := "bankFlags", apart := false, narrowed := true }
def BankFlagsUptoSaid : Prop := bankFlagsUptoRow.holds Try.pinned (OpenSpec.upto bankFlagsSpec)

end Rows
end Go.Proofs.Ytajbankfnnlocaa
