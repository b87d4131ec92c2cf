/-
  No cell of these rows narrows 'for every input' (looked for: loops, veiled, ifaces, maps, wideKeys, modest, calm, conditions, laid).
  DERIVED. THE GIVEN ROWS OF THIS SEAT. 4 by the template 'for every input the law returns true; each argument reads behind the call as it read before'; 0 by the template 'total and deterministic' (their statements: YtlpjadpjjcpfgaaTotals.lean).
  GIVEN WITH THE SEED: the statements are not yours to turn. If you find one false, say at which input.
  Laid BY PROGRAM, IN A SANDBOX (cutbox-rows.mjs): the forced cells as the released guide's own fill.sh prints them over the translation ce593533578eac3a… (all of the seat's roots in one cut). By AI agents, Wed Nov 11 2026. No macro, syntax, notation, axiom, sorry.
-/
import Derived.Test.YtlpjadpjjcpfgaaChecked
import GoSem.Claim
import GoSem.ClaimJoined
import GoSem.ClaimMapViews
import Derived.JoinedTies
import Derived.KernelRfl
namespace Go.Proofs.Ytlpjadpjjcpfgaa
/- THE CELL 'sum', in the pinned program and in every row, IS THE sha256 OF THE DUMP (.gsa) THAT YtlpjadpjjcpfgaaProg.lean LOADS. Nothing in Lean hashes anything: it is a label: what it is worth is what the hold of that sum in a sandbox is worth. -/
noncomputable def Try.pinned : Pinned := { name := "ytlpjadpjjcpfgaa", sum := "ce593533578eac3ad9022e512cce50c16de1963953c9c2beb667e3621a4afc1e", checked := Try.checked }
namespace Rows
def none {H : Type} : Left H := { results := [], args := [] }

/-- 'cameolaw11.ArmDecodes': WHATEVER THE INPUT: true; the input reads as it did. -/
def armDecodesSpec : ChangeSpec := { name := "armDecodes", fn := fun _ => fun
  | [d] => { results := [.lit (.bool true)], args := [d] }
  | _ => none }
def armDecodesRow : OpenClaim := { program := "ytlpjadpjjcpfgaa", sum := "ce593533578eac3ad9022e512cce50c16de1963953c9c2beb667e3621a4afc1e", func := "cameo/cameolaw11.ArmDecodes", spec := "armDecodes", apart := false }
def ArmDecodesSaid : Prop := armDecodesRow.holds Try.pinned (OpenSpec.ofChange armDecodesSpec)

/-- ITS FALSE NEIGHBOUR: 'it returns false'. Refute it at one input. -/
def armDecodesWrong : ChangeSpec := { name := "armDecodes", fn := fun _ => fun
  | [d] => { results := [.lit (.bool false)], args := [d] }
  | _ => none }
def ArmDecodesWrongFalsely : Prop := armDecodesRow.holds Try.pinned (OpenSpec.ofChange armDecodesWrong)

/-- 'cameolaw11.ArmConds': WHATEVER THE INPUT: true; the input reads as it did. -/
def armCondsSpec : ChangeSpec := { name := "armConds", fn := fun _ => fun
  | [d1, d2] => { results := [.lit (.bool true)], args := [d1, d2] }
  | _ => none }
def armCondsRow : OpenClaim := { program := "ytlpjadpjjcpfgaa", sum := "ce593533578eac3ad9022e512cce50c16de1963953c9c2beb667e3621a4afc1e", func := "cameo/cameolaw11.ArmConds", spec := "armConds", apart := false }
def ArmCondsSaid : Prop := armCondsRow.holds Try.pinned (OpenSpec.ofChange armCondsSpec)

/-- ITS FALSE NEIGHBOUR: 'it returns false'. Refute it at one input. -/
def armCondsWrong : ChangeSpec := { name := "armConds", fn := fun _ => fun
  | [d1, d2] => { results := [.lit (.bool false)], args := [d1, d2] }
  | _ => none }
def ArmCondsWrongFalsely : Prop := armCondsRow.holds Try.pinned (OpenSpec.ofChange armCondsWrong)

/-- 'cameolaw11.ArmFields': WHATEVER THE INPUT: true; the input reads as it did. -/
def armFieldsSpec : ChangeSpec := { name := "armFields", fn := fun _ => fun
  | [d] => { results := [.lit (.bool true)], args := [d] }
  | _ => none }
def armFieldsRow : OpenClaim := { program := "ytlpjadpjjcpfgaa", sum := "ce593533578eac3ad9022e512cce50c16de1963953c9c2beb667e3621a4afc1e", func := "cameo/cameolaw11.ArmFields", spec := "armFields", apart := false }
def ArmFieldsSaid : Prop := armFieldsRow.holds Try.pinned (OpenSpec.ofChange armFieldsSpec)

/-- ITS FALSE NEIGHBOUR: 'it returns false'. Refute it at one input. -/
def armFieldsWrong : ChangeSpec := { name := "armFields", fn := fun _ => fun
  | [d] => { results := [.lit (.bool false)], args := [d] }
  | _ => none }
def ArmFieldsWrongFalsely : Prop := armFieldsRow.holds Try.pinned (OpenSpec.ofChange armFieldsWrong)

/-- 'cameolaw11.ArmBranches': WHATEVER THE INPUT: true; the input reads as it did. -/
def armBranchesSpec : ChangeSpec := { name := "armBranches", fn := fun _ => fun
  | [d1, d2, d3] => { results := [.lit (.bool true)], args := [d1, d2, d3] }
  | _ => none }
def armBranchesRow : OpenClaim := { program := "ytlpjadpjjcpfgaa", sum := "ce593533578eac3ad9022e512cce50c16de1963953c9c2beb667e3621a4afc1e", func := "cameo/cameolaw11.ArmBranches", spec := "armBranches", apart := false }
def ArmBranchesSaid : Prop := armBranchesRow.holds Try.pinned (OpenSpec.ofChange armBranchesSpec)

/-- ITS FALSE NEIGHBOUR: 'it returns false'. Refute it at one input. -/
def armBranchesWrong : ChangeSpec := { name := "armBranches", fn := fun _ => fun
  | [d1, d2, d3] => { results := [.lit (.bool false)], args := [d1, d2, d3] }
  | _ => none }
def ArmBranchesWrongFalsely : Prop := armBranchesRow.holds Try.pinned (OpenSpec.ofChange armBranchesWrong)

/- THE SECOND FORM. 'bulk': how many values and letters a reading holds, each counted each time it is reached (what is shared counts as often as it is met; a slice's spare places count too). A statement '..UptoSaid' is the law's where the arguments, and the package variables that the reading takes, are together of bulk at most 1048576: NARROWER than '..Said'. Prove '..Said' where nothing that the law and all that it calls make is longer than what came in: it says more and counts as full. Else prove '..UptoSaid'. A law counts once. -/
mutual
def uptoBulk {H : Type} : DataW H → Nat
  | .lit (.string bytes) => bytes.length + 1
  | .lit _ => 1
  | .nil => 1
  | .ptr d => uptoBulk d + 1
  | .slice elems spare => uptoBulkAll elems + uptoBulkAll spare + 1
  | .agg parts => uptoBulkAll parts + 1
  | .iface _ d => uptoBulk d + 1
  | .map entries => uptoBulkEntries entries + 1
  | .held _ => 1
def uptoBulkAll {H : Type} : List (DataW H) → Nat
  | [] => 0
  | d :: r => uptoBulk d + uptoBulkAll r
def uptoBulkEntries {H : Type} : List (Lit × DataW H) → Nat
  | [] => 0
  | x :: r => uptoBulkEntry x + uptoBulkEntries r
def uptoBulkEntry {H : Type} : Lit × DataW H → Nat
  | (.string bytes, d) => bytes.length + uptoBulk d + 1
  | (_, d) => uptoBulk d + 1
 end
def uptoSmall : (H : Type) → List (DataW H) → Bool := fun _ ds => decide (uptoBulkAll ds ≤ 1048576)
def OpenSpec.upto (s : _root_.Go.ChangeSpec) : _root_.Go.OpenSpec := { _root_.Go.OpenSpec.ofChange s with cond := some uptoSmall }

/-- 'cameolaw11.ArmDecodes', WHERE WHAT IT READS IS OF BULK AT MOST 1048576: true; the input reads as it did. -/
def armDecodesUptoRow : OpenClaim := { program := "ytlpjadpjjcpfgaa", sum := "ce593533578eac3ad9022e512cce50c16de1963953c9c2beb667e3621a4afc1e", func := "cameo/cameolaw11.ArmDecodes", spec := "armDecodes", apart := false, narrowed := true }
def ArmDecodesUptoSaid : Prop := armDecodesUptoRow.holds Try.pinned (OpenSpec.upto armDecodesSpec)

/-- 'cameolaw11.ArmConds', WHERE WHAT IT READS IS OF BULK AT MOST 1048576: true; the input reads as it did. -/
def armCondsUptoRow : OpenClaim := { program := "ytlpjadpjjcpfgaa", sum := "ce593533578eac3ad9022e512cce50c16de1963953c9c2beb667e3621a4afc1e", func := "cameo/cameolaw11.ArmConds", spec := "armConds", apart := false, narrowed := true }
def ArmCondsUptoSaid : Prop := armCondsUptoRow.holds Try.pinned (OpenSpec.upto armCondsSpec)

/-- 'cameolaw11.ArmFields', WHERE WHAT IT READS IS OF BULK AT MOST 1048576: true; the input reads as it did. -/
def armFieldsUptoRow : OpenClaim := { program := "ytlpjadpjjcpfgaa", sum := "ce593533578eac3ad9022e512cce50c16de1963953c9c2beb667e3621a4afc1e", func := "cameo/cameolaw11.ArmFields", spec := "armFields", apart := false, narrowed := true }
def ArmFieldsUptoSaid : Prop := armFieldsUptoRow.holds Try.pinned (OpenSpec.upto armFieldsSpec)

/-- 'cameolaw11.ArmBranches', WHERE WHAT IT READS IS OF BULK AT MOST 1048576: true; the input reads as it did. -/
def armBranchesUptoRow : OpenClaim := { program := "ytlpjadpjjcpfgaa", sum := "ce593533578eac3ad9022e512cce50c16de1963953c9c2beb667e3621a4afc1e", func := "cameo/cameolaw11.ArmBranches", spec := "armBranches", apart := false, narrowed := true }
def ArmBranchesUptoSaid : Prop := armBranchesUptoRow.holds Try.pinned (OpenSpec.upto armBranchesSpec)

end Rows
end Go.Proofs.Ytlpjadpjjcpfgaa
