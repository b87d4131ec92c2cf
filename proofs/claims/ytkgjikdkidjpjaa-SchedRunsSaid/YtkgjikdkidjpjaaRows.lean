/-
  No cell of these rows narrows 'for every input' (looked for: loops, veiled, ifaces, maps, wideKeys, modest, calm, conditions, laid).
  DERIVED. THE GIVEN ROWS OF THIS SEAT. 5 by the template 'for every input the law returns true; each argument reads behind the call as it read before'; 0 by the template 'total and deterministic' (their statements: YtkgjikdkidjpjaaTotals.lean).
  GIVEN WITH THE SEED: the statements are not yours to turn. If you find one false, say at which input.
  Laid BY PROGRAM, IN A SANDBOX (cutbox-rows.mjs): the forced cells as the released guide's own fill.sh prints them over the translation 45fb6eaf7518eeda… (all of the seat's roots in one cut). By AI agents, Wed Nov 11 2026. No macro, syntax, notation, axiom, sorry.
-/
import Derived.Test.YtkgjikdkidjpjaaChecked
import GoSem.Claim
import GoSem.ClaimJoined
import GoSem.ClaimMapViews
import Derived.JoinedTies
import Derived.KernelRfl
namespace Go.Proofs.Ytkgjikdkidjpjaa
/- THE CELL 'sum', in the pinned program and in every row, IS THE sha256 OF THE DUMP (.gsa) THAT YtkgjikdkidjpjaaProg.lean LOADS. Nothing in Lean hashes anything: it is a label: what it is worth is what the hold of that sum in a sandbox is worth. -/
noncomputable def Try.pinned : Pinned := { name := "ytkgjikdkidjpjaa", sum := "45fb6eaf7518eedaed43e9abc93d61cf070da39e892fa8a8e43e74f212cbf056", checked := Try.checked }
namespace Rows
def none {H : Type} : Left H := { results := [], args := [] }

/-- 'cameolaw07.SchedBound': WHATEVER THE INPUT: true; the input reads as it did. -/
def schedBoundSpec : ChangeSpec := { name := "schedBound", fn := fun _ => fun
  | [d1, d2, d3] => { results := [.lit (.bool true)], args := [d1, d2, d3] }
  | _ => none }
def schedBoundRow : OpenClaim := { program := "ytkgjikdkidjpjaa", sum := "45fb6eaf7518eedaed43e9abc93d61cf070da39e892fa8a8e43e74f212cbf056", func := "cameo/cameolaw07.SchedBound", spec := "schedBound", unfollowed := true, recurses := true, plainKeys := false, apart := false }
def SchedBoundSaid : Prop := schedBoundRow.holds Try.pinned (OpenSpec.ofChange schedBoundSpec)

/-- ITS FALSE NEIGHBOUR: 'it returns false'. Refute it at one input. -/
def schedBoundWrong : ChangeSpec := { name := "schedBound", fn := fun _ => fun
  | [d1, d2, d3] => { results := [.lit (.bool false)], args := [d1, d2, d3] }
  | _ => none }
def SchedBoundWrongFalsely : Prop := schedBoundRow.holds Try.pinned (OpenSpec.ofChange schedBoundWrong)

/-- 'cameolaw07.SchedTies': WHATEVER THE INPUT: true; the input reads as it did. -/
def schedTiesSpec : ChangeSpec := { name := "schedTies", fn := fun _ => fun
  | [d1, d2] => { results := [.lit (.bool true)], args := [d1, d2] }
  | _ => none }
def schedTiesRow : OpenClaim := { program := "ytkgjikdkidjpjaa", sum := "45fb6eaf7518eedaed43e9abc93d61cf070da39e892fa8a8e43e74f212cbf056", func := "cameo/cameolaw07.SchedTies", spec := "schedTies", unfollowed := true, recurses := true, plainKeys := false, apart := false }
def SchedTiesSaid : Prop := schedTiesRow.holds Try.pinned (OpenSpec.ofChange schedTiesSpec)

/-- ITS FALSE NEIGHBOUR: 'it returns false'. Refute it at one input. -/
def schedTiesWrong : ChangeSpec := { name := "schedTies", fn := fun _ => fun
  | [d1, d2] => { results := [.lit (.bool false)], args := [d1, d2] }
  | _ => none }
def SchedTiesWrongFalsely : Prop := schedTiesRow.holds Try.pinned (OpenSpec.ofChange schedTiesWrong)

/-- 'cameolaw07.SchedOrder': WHATEVER THE INPUT: true; the input reads as it did. -/
def schedOrderSpec : ChangeSpec := { name := "schedOrder", fn := fun _ => fun
  | [d1, d2] => { results := [.lit (.bool true)], args := [d1, d2] }
  | _ => none }
def schedOrderRow : OpenClaim := { program := "ytkgjikdkidjpjaa", sum := "45fb6eaf7518eedaed43e9abc93d61cf070da39e892fa8a8e43e74f212cbf056", func := "cameo/cameolaw07.SchedOrder", spec := "schedOrder", unfollowed := true, recurses := true, plainKeys := false, apart := false }
def SchedOrderSaid : Prop := schedOrderRow.holds Try.pinned (OpenSpec.ofChange schedOrderSpec)

/-- ITS FALSE NEIGHBOUR: 'it returns false'. Refute it at one input. -/
def schedOrderWrong : ChangeSpec := { name := "schedOrder", fn := fun _ => fun
  | [d1, d2] => { results := [.lit (.bool false)], args := [d1, d2] }
  | _ => none }
def SchedOrderWrongFalsely : Prop := schedOrderRow.holds Try.pinned (OpenSpec.ofChange schedOrderWrong)

/-- 'cameolaw07.SchedRuns': WHATEVER THE INPUT: true; the input reads as it did. -/
def schedRunsSpec : ChangeSpec := { name := "schedRuns", fn := fun _ => fun
  | [d] => { results := [.lit (.bool true)], args := [d] }
  | _ => none }
def schedRunsRow : OpenClaim := { program := "ytkgjikdkidjpjaa", sum := "45fb6eaf7518eedaed43e9abc93d61cf070da39e892fa8a8e43e74f212cbf056", func := "cameo/cameolaw07.SchedRuns", spec := "schedRuns", unfollowed := true, recurses := true, plainKeys := false, apart := false }
def SchedRunsSaid : Prop := schedRunsRow.holds Try.pinned (OpenSpec.ofChange schedRunsSpec)

/-- ITS FALSE NEIGHBOUR: 'it returns false'. Refute it at one input. -/
def schedRunsWrong : ChangeSpec := { name := "schedRuns", fn := fun _ => fun
  | [d] => { results := [.lit (.bool false)], args := [d] }
  | _ => none }
def SchedRunsWrongFalsely : Prop := schedRunsRow.holds Try.pinned (OpenSpec.ofChange schedRunsWrong)

/-- 'cameolaw07.SchedNone': WHATEVER THE INPUT: true; the input reads as it did. -/
def schedNoneSpec : ChangeSpec := { name := "schedNone", fn := fun _ => fun
  | [d1, d2] => { results := [.lit (.bool true)], args := [d1, d2] }
  | _ => none }
def schedNoneRow : OpenClaim := { program := "ytkgjikdkidjpjaa", sum := "45fb6eaf7518eedaed43e9abc93d61cf070da39e892fa8a8e43e74f212cbf056", func := "cameo/cameolaw07.SchedNone", spec := "schedNone", unfollowed := true, recurses := true, plainKeys := false, apart := false }
def SchedNoneSaid : Prop := schedNoneRow.holds Try.pinned (OpenSpec.ofChange schedNoneSpec)

/-- ITS FALSE NEIGHBOUR: 'it returns false'. Refute it at one input. -/
def schedNoneWrong : ChangeSpec := { name := "schedNone", fn := fun _ => fun
  | [d1, d2] => { results := [.lit (.bool false)], args := [d1, d2] }
  | _ => none }
def SchedNoneWrongFalsely : Prop := schedNoneRow.holds Try.pinned (OpenSpec.ofChange schedNoneWrong)

/- THE SECOND FORM. 'bulk': how many values and letters a reading holds, each counted each time it is reached (what is shared counts as often as it is met; a slice's spare places count too). A statement '..UptoSaid' is the law's where the arguments, and the package variables that the reading takes, are together of bulk at most 1048576: NARROWER than '..Said'. Prove '..Said' where nothing that the law and all that it calls make is longer than what came in: it says more and counts as full. Else prove '..UptoSaid'. A law counts once. -/
mutual
def uptoBulk {H : Type} : DataW H → Nat
  | .lit (.string bytes) => bytes.length + 1
  | .lit _ => 1
  | .nil => 1
  | .ptr d => uptoBulk d + 1
  | .slice elems spare => uptoBulkAll elems + uptoBulkAll spare + 1
  | .agg parts => uptoBulkAll parts + 1
  | .iface _ d => uptoBulk d + 1
  | .map entries => uptoBulkEntries entries + 1
  | .held _ => 1
def uptoBulkAll {H : Type} : List (DataW H) → Nat
  | [] => 0
  | d :: r => uptoBulk d + uptoBulkAll r
def uptoBulkEntries {H : Type} : List (Lit × DataW H) → Nat
  | [] => 0
  | x :: r => uptoBulkEntry x + uptoBulkEntries r
def uptoBulkEntry {H : Type} : Lit × DataW H → Nat
  | (.string bytes, d) => bytes.length + uptoBulk d + 1
  | (_, d) => uptoBulk d + 1
 end
def uptoSmall : (H : Type) → List (DataW H) → Bool := fun _ ds => decide (uptoBulkAll ds ≤ 1048576)
def OpenSpec.upto (s : _root_.Go.ChangeSpec) : _root_.Go.OpenSpec := { _root_.Go.OpenSpec.ofChange s with cond := some uptoSmall }

/-- 'cameolaw07.SchedBound', WHERE WHAT IT READS IS OF BULK AT MOST 1048576: true; the input reads as it did. -/
def schedBoundUptoRow : OpenClaim := { program := "ytkgjikdkidjpjaa", sum := "45fb6eaf7518eedaed43e9abc93d61cf070da39e892fa8a8e43e74f212cbf056", func := "cameo/cameolaw07.SchedBound", spec := "schedBound", unfollowed := true, recurses := true, plainKeys := false, apart := false, narrowed := true }
def SchedBoundUptoSaid : Prop := schedBoundUptoRow.holds Try.pinned (OpenSpec.upto schedBoundSpec)

/-- 'cameolaw07.SchedTies', WHERE WHAT IT READS IS OF BULK AT MOST 1048576: true; the input reads as it did. -/
def schedTiesUptoRow : OpenClaim := { program := "ytkgjikdkidjpjaa", sum := "45fb6eaf7518eedaed43e9abc93d61cf070da39e892fa8a8e43e74f212cbf056", func := "cameo/cameolaw07.SchedTies", spec := "schedTies", unfollowed := true, recurses := true, plainKeys := false, apart := false, narrowed := true }
def SchedTiesUptoSaid : Prop := schedTiesUptoRow.holds Try.pinned (OpenSpec.upto schedTiesSpec)

/-- 'cameolaw07.SchedOrder', WHERE WHAT IT READS IS OF BULK AT MOST 1048576: true; the input reads as it did. -/
def schedOrderUptoRow : OpenClaim := { program := "ytkgjikdkidjpjaa", sum := "45fb6eaf7518eedaed43e9abc93d61cf070da39e892fa8a8e43e74f212cbf056", func := "cameo/cameolaw07.SchedOrder", spec := "schedOrder", unfollowed := true, recurses := true, plainKeys := false, apart := false, narrowed := true }
def SchedOrderUptoSaid : Prop := schedOrderUptoRow.holds Try.pinned (OpenSpec.upto schedOrderSpec)

/-- 'cameolaw07.SchedRuns', WHERE WHAT IT READS IS OF BULK AT MOST 1048576: true; the input reads as it did. -/
def schedRunsUptoRow : OpenClaim := { program := "ytkgjikdkidjpjaa", sum := "45fb6eaf7518eedaed43e9abc93d61cf070da39e892fa8a8e43e74f212cbf056", func := "cameo/cameolaw07.SchedRuns", spec := "schedRuns", unfollowed := true, recurses := true, plainKeys := false, apart := false, narrowed := true }
def SchedRunsUptoSaid : Prop := schedRunsUptoRow.holds Try.pinned (OpenSpec.upto schedRunsSpec)

/-- 'cameolaw07.SchedNone', WHERE WHAT IT READS IS OF BULK AT MOST 1048576: true; the input reads as it did. -/
def schedNoneUptoRow : OpenClaim := { program := "ytkgjikdkidjpjaa", sum := "45fb6eaf7518eedaed43e9abc93d61cf070da39e892fa8a8e43e74f212cbf056", func := "cameo/cameolaw07.SchedNone", spec := "schedNone", unfollowed := true, recurses := true, plainKeys := false, apart := false, narrowed := true }
def SchedNoneUptoSaid : Prop := schedNoneUptoRow.holds Try.pinned (OpenSpec.upto schedNoneSpec)

end Rows
end Go.Proofs.Ytkgjikdkidjpjaa
