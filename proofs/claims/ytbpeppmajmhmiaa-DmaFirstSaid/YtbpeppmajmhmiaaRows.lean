/-
  No cell of these rows narrows 'for every input' (looked for: loops, veiled, ifaces, maps, wideKeys, modest, calm, conditions, laid).
  DERIVED. THE GIVEN ROWS OF THIS SEAT. 5 by the template 'for every input the law returns true; each argument reads behind the call as it read before'; 0 by the template 'total and deterministic' (their statements: YtbpeppmajmhmiaaTotals.lean).
  GIVEN WITH THE SEED: the statements are not yours to turn. If you find one false, say at which input.
  Laid BY PROGRAM, IN A SANDBOX (cutbox-rows.mjs): the forced cells as the released guide's own fill.sh prints them over the translation 2e3774d1aaf0f659… (all of the seat's roots in one cut). By AI agents, Wed Nov 11 2026. No macro, syntax, notation, axiom, sorry.
-/
import Derived.Test.YtbpeppmajmhmiaaChecked
import GoSem.Claim
import GoSem.ClaimJoined
import GoSem.ClaimMapViews
import Derived.JoinedTies
import Derived.KernelRfl
namespace Go.Proofs.Ytbpeppmajmhmiaa
/- THE CELL 'sum', in the pinned program and in every row, IS THE sha256 OF THE DUMP (.gsa) THAT YtbpeppmajmhmiaaProg.lean LOADS. Nothing in Lean hashes anything: it is a label: what it is worth is what the hold of that sum in a sandbox is worth. -/
noncomputable def Try.pinned : Pinned := { name := "ytbpeppmajmhmiaa", sum := "2e3774d1aaf0f659b526be1770c3b5617f9af9d68e536e20b60920b68264a663", checked := Try.checked }
namespace Rows
def none {H : Type} : Left H := { results := [], args := [] }

/-- 'cameolaw17.DmaCopies': WHATEVER THE INPUT: true; the input reads as it did. -/
def dmaCopiesSpec : ChangeSpec := { name := "dmaCopies", fn := fun _ => fun
  | [d1, d2, d3] => { results := [.lit (.bool true)], args := [d1, d2, d3] }
  | _ => none }
def dmaCopiesRow : OpenClaim := { program := "ytbpeppmajmhmiaa", sum := "2e3774d1aaf0f659b526be1770c3b5617f9af9d68e536e20b60920b68264a663", func := "cameo/cameolaw17.DmaCopies", spec := "dmaCopies", unfollowed := true, recurses := true, apart := false }
def DmaCopiesSaid : Prop := dmaCopiesRow.holds Try.pinned (OpenSpec.ofChange dmaCopiesSpec)

/-- ITS FALSE NEIGHBOUR: 'it returns false'. Refute it at one input. -/
def dmaCopiesWrong : ChangeSpec := { name := "dmaCopies", fn := fun _ => fun
  | [d1, d2, d3] => { results := [.lit (.bool false)], args := [d1, d2, d3] }
  | _ => none }
def DmaCopiesWrongFalsely : Prop := dmaCopiesRow.holds Try.pinned (OpenSpec.ofChange dmaCopiesWrong)

/-- 'cameolaw17.DmaRepeats': WHATEVER THE INPUT: true; the input reads as it did. -/
def dmaRepeatsSpec : ChangeSpec := { name := "dmaRepeats", fn := fun _ => fun
  | [d1, d2, d3] => { results := [.lit (.bool true)], args := [d1, d2, d3] }
  | _ => none }
def dmaRepeatsRow : OpenClaim := { program := "ytbpeppmajmhmiaa", sum := "2e3774d1aaf0f659b526be1770c3b5617f9af9d68e536e20b60920b68264a663", func := "cameo/cameolaw17.DmaRepeats", spec := "dmaRepeats", unfollowed := true, recurses := true, apart := false }
def DmaRepeatsSaid : Prop := dmaRepeatsRow.holds Try.pinned (OpenSpec.ofChange dmaRepeatsSpec)

/-- ITS FALSE NEIGHBOUR: 'it returns false'. Refute it at one input. -/
def dmaRepeatsWrong : ChangeSpec := { name := "dmaRepeats", fn := fun _ => fun
  | [d1, d2, d3] => { results := [.lit (.bool false)], args := [d1, d2, d3] }
  | _ => none }
def DmaRepeatsWrongFalsely : Prop := dmaRepeatsRow.holds Try.pinned (OpenSpec.ofChange dmaRepeatsWrong)

/-- 'cameolaw17.DmaRuns': WHATEVER THE INPUT: true; the input reads as it did. -/
def dmaRunsSpec : ChangeSpec := { name := "dmaRuns", fn := fun _ => fun
  | [d] => { results := [.lit (.bool true)], args := [d] }
  | _ => none }
def dmaRunsRow : OpenClaim := { program := "ytbpeppmajmhmiaa", sum := "2e3774d1aaf0f659b526be1770c3b5617f9af9d68e536e20b60920b68264a663", func := "cameo/cameolaw17.DmaRuns", spec := "dmaRuns", unfollowed := true, recurses := true, apart := false }
def DmaRunsSaid : Prop := dmaRunsRow.holds Try.pinned (OpenSpec.ofChange dmaRunsSpec)

/-- ITS FALSE NEIGHBOUR: 'it returns false'. Refute it at one input. -/
def dmaRunsWrong : ChangeSpec := { name := "dmaRuns", fn := fun _ => fun
  | [d] => { results := [.lit (.bool false)], args := [d] }
  | _ => none }
def DmaRunsWrongFalsely : Prop := dmaRunsRow.holds Try.pinned (OpenSpec.ofChange dmaRunsWrong)

/-- 'cameolaw17.DmaFirst': WHATEVER THE INPUT: true; the input reads as it did. -/
def dmaFirstSpec : ChangeSpec := { name := "dmaFirst", fn := fun _ => fun
  | [d1, d2, d3] => { results := [.lit (.bool true)], args := [d1, d2, d3] }
  | _ => none }
def dmaFirstRow : OpenClaim := { program := "ytbpeppmajmhmiaa", sum := "2e3774d1aaf0f659b526be1770c3b5617f9af9d68e536e20b60920b68264a663", func := "cameo/cameolaw17.DmaFirst", spec := "dmaFirst", unfollowed := true, recurses := true, apart := false }
def DmaFirstSaid : Prop := dmaFirstRow.holds Try.pinned (OpenSpec.ofChange dmaFirstSpec)

/-- ITS FALSE NEIGHBOUR: 'it returns false'. Refute it at one input. -/
def dmaFirstWrong : ChangeSpec := { name := "dmaFirst", fn := fun _ => fun
  | [d1, d2, d3] => { results := [.lit (.bool false)], args := [d1, d2, d3] }
  | _ => none }
def DmaFirstWrongFalsely : Prop := dmaFirstRow.holds Try.pinned (OpenSpec.ofChange dmaFirstWrong)

/-- 'cameolaw17.DmaNone': WHATEVER THE INPUT: true; the input reads as it did. -/
def dmaNoneSpec : ChangeSpec := { name := "dmaNone", fn := fun _ => fun
  | [d] => { results := [.lit (.bool true)], args := [d] }
  | _ => none }
def dmaNoneRow : OpenClaim := { program := "ytbpeppmajmhmiaa", sum := "2e3774d1aaf0f659b526be1770c3b5617f9af9d68e536e20b60920b68264a663", func := "cameo/cameolaw17.DmaNone", spec := "dmaNone", unfollowed := true, recurses := true, apart := false }
def DmaNoneSaid : Prop := dmaNoneRow.holds Try.pinned (OpenSpec.ofChange dmaNoneSpec)

/-- ITS FALSE NEIGHBOUR: 'it returns false'. Refute it at one input. -/
def dmaNoneWrong : ChangeSpec := { name := "dmaNone", fn := fun _ => fun
  | [d] => { results := [.lit (.bool false)], args := [d] }
  | _ => none }
def DmaNoneWrongFalsely : Prop := dmaNoneRow.holds Try.pinned (OpenSpec.ofChange dmaNoneWrong)

/- THE SECOND FORM. 'bulk': how many values and letters a reading holds, each counted each time it is reached (what is shared counts as often as it is met; a slice's spare places count too). A statement '..UptoSaid' is the law's where the arguments, and the package variables that the reading takes, are together of bulk at most 1048576: NARROWER than '..Said'. Prove '..Said' where nothing that the law and all that it calls make is longer than what came in: it says more and counts as full. Else prove '..UptoSaid'. A law counts once. -/
mutual
def uptoBulk {H : Type} : DataW H → Nat
  | .lit (.string bytes) => bytes.length + 1
  | .lit _ => 1
  | .nil => 1
  | .ptr d => uptoBulk d + 1
  | .slice elems spare => uptoBulkAll elems + uptoBulkAll spare + 1
  | .agg parts => uptoBulkAll parts + 1
  | .iface _ d => uptoBulk d + 1
  | .map entries => uptoBulkEntries entries + 1
  | .held _ => 1
def uptoBulkAll {H : Type} : List (DataW H) → Nat
  | [] => 0
  | d :: r => uptoBulk d + uptoBulkAll r
def uptoBulkEntries {H : Type} : List (Lit × DataW H) → Nat
  | [] => 0
  | x :: r => uptoBulkEntry x + uptoBulkEntries r
def uptoBulkEntry {H : Type} : Lit × DataW H → Nat
  | (.string bytes, d) => bytes.length + uptoBulk d + 1
  | (_, d) => uptoBulk d + 1
 end
def uptoSmall : (H : Type) → List (DataW H) → Bool := fun _ ds => decide (uptoBulkAll ds ≤ 1048576)
def OpenSpec.upto (s : _root_.Go.ChangeSpec) : _root_.Go.OpenSpec := { _root_.Go.OpenSpec.ofChange s with cond := some uptoSmall }

/-- 'cameolaw17.DmaCopies', WHERE WHAT IT READS IS OF BULK AT MOST 1048576: true; the input reads as it did. -/
def dmaCopiesUptoRow : OpenClaim := { program := "ytbpeppmajmhmiaa", sum := "2e3774d1aaf0f659b526be1770c3b5617f9af9d68e536e20b60920b68264a663", func := "cameo/cameolaw17.DmaCopies", spec := "dmaCopies", unfollowed := true, recurses := true, apart := false, narrowed := true }
def DmaCopiesUptoSaid : Prop := dmaCopiesUptoRow.holds Try.pinned (OpenSpec.upto dmaCopiesSpec)

/-- 'cameolaw17.DmaRepeats', WHERE WHAT IT READS IS OF BULK AT MOST 1048576: true; the input reads as it did. -/
def dmaRepeatsUptoRow : OpenClaim := { program := "ytbpeppmajmhmiaa", sum := "2e3774d1aaf0f659b526be1770c3b5617f9af9d68e536e20b60920b68264a663", func := "cameo/cameolaw17.DmaRepeats", spec := "dmaRepeats", unfollowed := true, recurses := true, apart := false, narrowed := true }
def DmaRepeatsUptoSaid : Prop := dmaRepeatsUptoRow.holds Try.pinned (OpenSpec.upto dmaRepeatsSpec)

/-- 'cameolaw17.DmaRuns', WHERE WHAT IT READS IS OF BULK AT MOST 1048576: true; the input reads as it did. -/
def dmaRunsUptoRow : OpenClaim := { program := "ytbpeppmajmhmiaa", sum := "2e3774d1aaf0f659b526be1770c3b5617f9af9d68e536e20b60920b68264a663", func := "cameo/cameolaw17.DmaRuns", spec := "dmaRuns", unfollowed := true, recurses := true, apart := false, narrowed := true }
def DmaRunsUptoSaid : Prop := dmaRunsUptoRow.holds Try.pinned (OpenSpec.upto dmaRunsSpec)

/-- 'cameolaw17.DmaFirst', WHERE WHAT IT READS IS OF BULK AT MOST 1048576: true; the input reads as it did. -/
def dmaFirstUptoRow : OpenClaim := { program := "ytbpeppmajmhmiaa", sum := "2e3774d1aaf0f659b526be1770c3b5617f9af9d68e536e20b60920b68264a663", func := "cameo/cameolaw17.DmaFirst", spec := "dmaFirst", unfollowed := true, recurses := true, apart := false, narrowed := true }
def DmaFirstUptoSaid : Prop := dmaFirstUptoRow.holds Try.pinned (OpenSpec.upto dmaFirstSpec)

/-- 'cameolaw17.DmaNone', WHERE WHAT IT READS IS OF BULK AT MOST 1048576: true; the input reads as it did. -/
def dmaNoneUptoRow : OpenClaim := { program := "ytbpeppmajmhmiaa", sum := "2e3774d1aaf0f659b526be1770c3b5617f9af9d68e536e20b60920b68264a663", func := "cameo/cameolaw17.DmaNone", spec := "dmaNone", unfollowed := true, recurses := true, apart := false, narrowed := true }
def DmaNoneUptoSaid : Prop := dmaNoneUptoRow.holds Try.pinned (OpenSpec.upto dmaNoneSpec)

end Rows
end Go.Proofs.Ytbpeppmajmhmiaa
