/-
  No cell of these rows narrows 'for every input' (looked for: loops, veiled, ifaces, maps, wideKeys, modest, calm, conditions, laid).
  DERIVED. THE GIVEN ROWS OF THIS SEAT. 5 by the template 'for every input the law returns true; each argument reads behind the call as it read before'; 0 by the template 'total and deterministic' (their statements: YtbljlnhgllbbdaaTotals.lean).
  GIVEN WITH THE SEED: the statements are not yours to turn. If you find one false, say at which input.
  Laid BY PROGRAM, IN A SANDBOX (cutbox-rows.mjs): the forced cells as the released guide's own fill.sh prints them over the translation 1e62047cb56c5c80… (all of the seat's roots in one cut). By AI agents, Wed Nov 11 2026. No macro, syntax, notation, axiom, sorry.
-/
import Derived.Test.YtbljlnhgllbbdaaChecked
import GoSem.Claim
import GoSem.ClaimJoined
import GoSem.ClaimMapViews
import Derived.JoinedTies
import Derived.KernelRfl
namespace Go.Proofs.Ytbljlnhgllbbdaa
/- THE CELL 'sum', in the pinned program and in every row, IS THE sha256 OF THE DUMP (.gsa) THAT YtbljlnhgllbbdaaProg.lean LOADS. Nothing in Lean hashes anything: it is a label: what it is worth is what the hold of that sum in a sandbox is worth. -/
noncomputable def Try.pinned : Pinned := { name := "ytbljlnhgllbbdaa", sum := "1e62047cb56c5c80442603ec1ce877e083e8c989815cc8e76988d70371fb5cb4", checked := Try.checked }
namespace Rows
def none {H : Type} : Left H := { results := [], args := [] }

/-- 'cameolaw19.BgDraws': WHATEVER THE INPUT: true; the input reads as it did. -/
def bgDrawsSpec : ChangeSpec := { name := "bgDraws", fn := fun _ => fun
  | [d1, d2, d3] => { results := [.lit (.bool true)], args := [d1, d2, d3] }
  | _ => none }
def bgDrawsRow : OpenClaim := { program := "ytbljlnhgllbbdaa", sum := "1e62047cb56c5c80442603ec1ce877e083e8c989815cc8e76988d70371fb5cb4", func := "cameo/cameolaw19.BgDraws", spec := "bgDraws", unfollowed := true, recurses := true, apart := false }
def BgDrawsSaid : Prop := bgDrawsRow.holds Try.pinned (OpenSpec.ofChange bgDrawsSpec)

/-- ITS FALSE NEIGHBOUR: 'it returns false'. Refute it at one input. -/
def bgDrawsWrong : ChangeSpec := { name := "bgDraws", fn := fun _ => fun
  | [d1, d2, d3] => { results := [.lit (.bool false)], args := [d1, d2, d3] }
  | _ => none }
def BgDrawsWrongFalsely : Prop := bgDrawsRow.holds Try.pinned (OpenSpec.ofChange bgDrawsWrong)

/-- 'cameolaw19.BgShort': WHATEVER THE INPUT: true; the input reads as it did. -/
def bgShortSpec : ChangeSpec := { name := "bgShort", fn := fun _ => fun
  | [d1, d2, d3] => { results := [.lit (.bool true)], args := [d1, d2, d3] }
  | _ => none }
def bgShortRow : OpenClaim := { program := "ytbljlnhgllbbdaa", sum := "1e62047cb56c5c80442603ec1ce877e083e8c989815cc8e76988d70371fb5cb4", func := "cameo/cameolaw19.BgShort", spec := "bgShort", unfollowed := true, recurses := true, apart := false }
def BgShortSaid : Prop := bgShortRow.holds Try.pinned (OpenSpec.ofChange bgShortSpec)

/-- ITS FALSE NEIGHBOUR: 'it returns false'. Refute it at one input. -/
def bgShortWrong : ChangeSpec := { name := "bgShort", fn := fun _ => fun
  | [d1, d2, d3] => { results := [.lit (.bool false)], args := [d1, d2, d3] }
  | _ => none }
def BgShortWrongFalsely : Prop := bgShortRow.holds Try.pinned (OpenSpec.ofChange bgShortWrong)

/-- 'cameolaw19.BgMoves': WHATEVER THE INPUT: true; the input reads as it did. -/
def bgMovesSpec : ChangeSpec := { name := "bgMoves", fn := fun _ => fun
  | [d1, d2] => { results := [.lit (.bool true)], args := [d1, d2] }
  | _ => none }
def bgMovesRow : OpenClaim := { program := "ytbljlnhgllbbdaa", sum := "1e62047cb56c5c80442603ec1ce877e083e8c989815cc8e76988d70371fb5cb4", func := "cameo/cameolaw19.BgMoves", spec := "bgMoves", unfollowed := true, recurses := true, apart := false }
def BgMovesSaid : Prop := bgMovesRow.holds Try.pinned (OpenSpec.ofChange bgMovesSpec)

/-- ITS FALSE NEIGHBOUR: 'it returns false'. Refute it at one input. -/
def bgMovesWrong : ChangeSpec := { name := "bgMoves", fn := fun _ => fun
  | [d1, d2] => { results := [.lit (.bool false)], args := [d1, d2] }
  | _ => none }
def BgMovesWrongFalsely : Prop := bgMovesRow.holds Try.pinned (OpenSpec.ofChange bgMovesWrong)

/-- 'cameolaw19.BgPure': WHATEVER THE INPUT: true; the input reads as it did. -/
def bgPureSpec : ChangeSpec := { name := "bgPure", fn := fun _ => fun
  | [d1, d2, d3] => { results := [.lit (.bool true)], args := [d1, d2, d3] }
  | _ => none }
def bgPureRow : OpenClaim := { program := "ytbljlnhgllbbdaa", sum := "1e62047cb56c5c80442603ec1ce877e083e8c989815cc8e76988d70371fb5cb4", func := "cameo/cameolaw19.BgPure", spec := "bgPure", unfollowed := true, recurses := true, apart := false }
def BgPureSaid : Prop := bgPureRow.holds Try.pinned (OpenSpec.ofChange bgPureSpec)

/-- ITS FALSE NEIGHBOUR: 'it returns false'. Refute it at one input. -/
def bgPureWrong : ChangeSpec := { name := "bgPure", fn := fun _ => fun
  | [d1, d2, d3] => { results := [.lit (.bool false)], args := [d1, d2, d3] }
  | _ => none }
def BgPureWrongFalsely : Prop := bgPureRow.holds Try.pinned (OpenSpec.ofChange bgPureWrong)

/-- 'cameolaw19.BgDots': WHATEVER THE INPUT: true; the input reads as it did. -/
def bgDotsSpec : ChangeSpec := { name := "bgDots", fn := fun _ => fun
  | [d1, d2] => { results := [.lit (.bool true)], args := [d1, d2] }
  | _ => none }
def bgDotsRow : OpenClaim := { program := "ytbljlnhgllbbdaa", sum := "1e62047cb56c5c80442603ec1ce877e083e8c989815cc8e76988d70371fb5cb4", func := "cameo/cameolaw19.BgDots", spec := "bgDots", unfollowed := true, recurses := true, apart := false }
def BgDotsSaid : Prop := bgDotsRow.holds Try.pinned (OpenSpec.ofChange bgDotsSpec)

/-- ITS FALSE NEIGHBOUR: 'it returns false'. Refute it at one input. -/
def bgDotsWrong : ChangeSpec := { name := "bgDots", fn := fun _ => fun
  | [d1, d2] => { results := [.lit (.bool false)], args := [d1, d2] }
  | _ => none }
def BgDotsWrongFalsely : Prop := bgDotsRow.holds Try.pinned (OpenSpec.ofChange bgDotsWrong)

/- THE SECOND FORM. 'bulk': how many values and letters a reading holds, each counted each time it is reached (what is shared counts as often as it is met; a slice's spare places count too). A statement '..UptoSaid' is the law's where the arguments, and the package variables that the reading takes, are together of bulk at most 1048576: NARROWER than '..Said'. Prove '..Said' where nothing that the law and all that it calls make is longer than what came in: it says more and counts as full. Else prove '..UptoSaid'. A law counts once. -/
mutual
def uptoBulk {H : Type} : DataW H → Nat
  | .lit (.string bytes) => bytes.length + 1
  | .lit _ => 1
  | .nil => 1
  | .ptr d => uptoBulk d + 1
  | .slice elems spare => uptoBulkAll elems + uptoBulkAll spare + 1
  | .agg parts => uptoBulkAll parts + 1
  | .iface _ d => uptoBulk d + 1
  | .map entries => uptoBulkEntries entries + 1
  | .held _ => 1
def uptoBulkAll {H : Type} : List (DataW H) → Nat
  | [] => 0
  | d :: r => uptoBulk d + uptoBulkAll r
def uptoBulkEntries {H : Type} : List (Lit × DataW H) → Nat
  | [] => 0
  | x :: r => uptoBulkEntry x + uptoBulkEntries r
def uptoBulkEntry {H : Type} : Lit × DataW H → Nat
  | (.string bytes, d) => bytes.length + uptoBulk d + 1
  | (_, d) => uptoBulk d + 1
 end
def uptoSmall : (H : Type) → List (DataW H) → Bool := fun _ ds => decide (uptoBulkAll ds ≤ 1048576)
def OpenSpec.upto (s : _root_.Go.ChangeSpec) : _root_.Go.OpenSpec := { _root_.Go.OpenSpec.ofChange s with cond := some uptoSmall }

/-- 'cameolaw19.BgDraws', WHERE WHAT IT READS IS OF BULK AT MOST 1048576: true; the input reads as it did. -/
def bgDrawsUptoRow : OpenClaim := { program := "ytbljlnhgllbbdaa", sum := "1e62047cb56c5c80442603ec1ce877e083e8c989815cc8e76988d70371fb5cb4", func := "cameo/cameolaw19.BgDraws", spec := "bgDraws", unfollowed := true, recurses := true, apart := false, narrowed := true }
def BgDrawsUptoSaid : Prop := bgDrawsUptoRow.holds Try.pinned (OpenSpec.upto bgDrawsSpec)

/-- 'cameolaw19.BgShort', WHERE WHAT IT READS IS OF BULK AT MOST 1048576: true; the input reads as it did. -/
def bgShortUptoRow : OpenClaim := { program := "ytbljlnhgllbbdaa", sum := "1e62047cb56c5c80442603ec1ce877e083e8c989815cc8e76988d70371fb5cb4", func := "cameo/cameolaw19.BgShort", spec := "bgShort", unfollowed := true, recurses := true, apart := false, narrowed := true }
def BgShortUptoSaid : Prop := bgShortUptoRow.holds Try.pinned (OpenSpec.upto bgShortSpec)

/-- 'cameolaw19.BgMoves', WHERE WHAT IT READS IS OF BULK AT MOST 1048576: true; the input reads as it did. -/
def bgMovesUptoRow : OpenClaim := { program := "ytbljlnhgllbbdaa", sum := "1e62047cb56c5c80442603ec1ce877e083e8c989815cc8e76988d70371fb5cb4", func := "cameo/cameolaw19.BgMoves", spec := "bgMoves", unfollowed := true, recurses := true, apart := false, narrowed := true }
def BgMovesUptoSaid : Prop := bgMovesUptoRow.holds Try.pinned (OpenSpec.upto bgMovesSpec)

/-- 'cameolaw19.BgPure', WHERE WHAT IT READS IS OF BULK AT MOST 1048576: true; the input reads as it did. -/
def bgPureUptoRow : OpenClaim := { program := "ytbljlnhgllbbdaa", sum := "1e62047cb56c5c80442603ec1ce877e083e8c989815cc8e76988d70371fb5cb4", func := "cameo/cameolaw19.BgPure", spec := "bgPure", unfollowed := true, recurses := true, apart := false, narrowed := true }
def BgPureUptoSaid : Prop := bgPureUptoRow.holds Try.pinned (OpenSpec.upto bgPureSpec)

/-- 'cameolaw19.BgDots', WHERE WHAT IT READS IS OF BULK AT MOST 1048576: true; the input reads as it did. -/
def bgDotsUptoRow : OpenClaim := { program := "ytbljlnhgllbbdaa", sum := "1e62047cb56c5c80442603ec1ce877e083e8c989815cc8e76988d70371fb5cb4", func := "cameo/cameolaw19.BgDots", spec := "bgDots", unfollowed := true, recurses := true, apart := false, narrowed := true }
def BgDotsUptoSaid : Prop := bgDotsUptoRow.holds Try.pinned (OpenSpec.upto bgDotsSpec)

end Rows
end Go.Proofs.Ytbljlnhgllbbdaa
