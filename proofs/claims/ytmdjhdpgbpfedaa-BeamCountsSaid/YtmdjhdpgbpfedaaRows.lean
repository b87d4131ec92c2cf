/-
  No cell of these rows narrows 'for every input' (looked for: loops, veiled, ifaces, maps, wideKeys, modest, calm, conditions, laid).
  DERIVED. THE GIVEN ROWS OF THIS SEAT. 4 by the template 'for every input the law returns true; each argument reads behind the call as it read before'; 0 by the template 'total and deterministic' (their statements: YtmdjhdpgbpfedaaTotals.lean).
  GIVEN WITH THE SEED: the statements are not yours to turn. If you find one false, say at which input.
  Laid BY PROGRAM, IN A SANDBOX (cutbox-rows.mjs): the forced cells as the released guide's own fill.sh prints them over the translation 966997436e51c29a… (all of the seat's roots in one cut). By AI agents, Wed Nov 11 2026. No macro, syntax, notation, axiom, sorry.
-/
import Derived.Test.YtmdjhdpgbpfedaaChecked
import GoSem.Claim
import GoSem.ClaimJoined
import GoSem.ClaimMapViews
import Derived.JoinedTies
import Derived.KernelRfl
namespace Go.Proofs.Ytmdjhdpgbpfedaa
/- THE CELL 'sum', in the pinned program and in every row, IS THE sha256 OF THE DUMP (.gsa) THAT YtmdjhdpgbpfedaaProg.lean LOADS. Nothing in Lean hashes anything: it is a label: what it is worth is what the hold of that sum in a sandbox is worth. -/
noncomputable def Try.pinned : Pinned := { name := "ytmdjhdpgbpfedaa", sum := "966997436e51c29a9d841f6acfe5b1b01aabbbb2bb495d53be0d68532e2fed6c", checked := Try.checked }
namespace Rows
def none {H : Type} : Left H := { results := [], args := [] }

/-- 'cameolaw18.BeamCounts': WHATEVER THE INPUT: true; the input reads as it did. -/
def beamCountsSpec : ChangeSpec := { name := "beamCounts", fn := fun _ => fun
  | [d1, d2] => { results := [.lit (.bool true)], args := [d1, d2] }
  | _ => none }
def beamCountsRow : OpenClaim := { program := "ytmdjhdpgbpfedaa", sum := "966997436e51c29a9d841f6acfe5b1b01aabbbb2bb495d53be0d68532e2fed6c", func := "cameo/cameolaw18.BeamCounts", spec := "beamCounts", apart := false }
def BeamCountsSaid : Prop := beamCountsRow.holds Try.pinned (OpenSpec.ofChange beamCountsSpec)

/-- ITS FALSE NEIGHBOUR: 'it returns false'. Refute it at one input. -/
def beamCountsWrong : ChangeSpec := { name := "beamCounts", fn := fun _ => fun
  | [d1, d2] => { results := [.lit (.bool false)], args := [d1, d2] }
  | _ => none }
def BeamCountsWrongFalsely : Prop := beamCountsRow.holds Try.pinned (OpenSpec.ofChange beamCountsWrong)

/-- 'cameolaw18.BeamTells': WHATEVER THE INPUT: true; the input reads as it did. -/
def beamTellsSpec : ChangeSpec := { name := "beamTells", fn := fun _ => fun
  | [d1, d2] => { results := [.lit (.bool true)], args := [d1, d2] }
  | _ => none }
def beamTellsRow : OpenClaim := { program := "ytmdjhdpgbpfedaa", sum := "966997436e51c29a9d841f6acfe5b1b01aabbbb2bb495d53be0d68532e2fed6c", func := "cameo/cameolaw18.BeamTells", spec := "beamTells", apart := false }
def BeamTellsSaid : Prop := beamTellsRow.holds Try.pinned (OpenSpec.ofChange beamTellsSpec)

/-- ITS FALSE NEIGHBOUR: 'it returns false'. Refute it at one input. -/
def beamTellsWrong : ChangeSpec := { name := "beamTells", fn := fun _ => fun
  | [d1, d2] => { results := [.lit (.bool false)], args := [d1, d2] }
  | _ => none }
def BeamTellsWrongFalsely : Prop := beamTellsRow.holds Try.pinned (OpenSpec.ofChange beamTellsWrong)

/-- 'cameolaw18.BeamStays': WHATEVER THE INPUT: true; the input reads as it did. -/
def beamStaysSpec : ChangeSpec := { name := "beamStays", fn := fun _ => fun
  | [d1, d2] => { results := [.lit (.bool true)], args := [d1, d2] }
  | _ => none }
def beamStaysRow : OpenClaim := { program := "ytmdjhdpgbpfedaa", sum := "966997436e51c29a9d841f6acfe5b1b01aabbbb2bb495d53be0d68532e2fed6c", func := "cameo/cameolaw18.BeamStays", spec := "beamStays", apart := false }
def BeamStaysSaid : Prop := beamStaysRow.holds Try.pinned (OpenSpec.ofChange beamStaysSpec)

/-- ITS FALSE NEIGHBOUR: 'it returns false'. Refute it at one input. -/
def beamStaysWrong : ChangeSpec := { name := "beamStays", fn := fun _ => fun
  | [d1, d2] => { results := [.lit (.bool false)], args := [d1, d2] }
  | _ => none }
def BeamStaysWrongFalsely : Prop := beamStaysRow.holds Try.pinned (OpenSpec.ofChange beamStaysWrong)

/-- 'cameolaw18.BeamTurns': WHATEVER THE INPUT: true; the input reads as it did. -/
def beamTurnsSpec : ChangeSpec := { name := "beamTurns", fn := fun _ => fun
  | [d1, d2] => { results := [.lit (.bool true)], args := [d1, d2] }
  | _ => none }
def beamTurnsRow : OpenClaim := { program := "ytmdjhdpgbpfedaa", sum := "966997436e51c29a9d841f6acfe5b1b01aabbbb2bb495d53be0d68532e2fed6c", func := "cameo/cameolaw18.BeamTurns", spec := "beamTurns", apart := false }
def BeamTurnsSaid : Prop := beamTurnsRow.holds Try.pinned (OpenSpec.ofChange beamTurnsSpec)

/-- ITS FALSE NEIGHBOUR: 'it returns false'. Refute it at one input. -/
def beamTurnsWrong : ChangeSpec := { name := "beamTurns", fn := fun _ => fun
  | [d1, d2] => { results := [.lit (.bool false)], args := [d1, d2] }
  | _ => none }
def BeamTurnsWrongFalsely : Prop := beamTurnsRow.holds Try.pinned (OpenSpec.ofChange beamTurnsWrong)

/- THE SECOND FORM. 'bulk': how many values and letters a reading holds, each counted each time it is reached (what is shared counts as often as it is met; a slice's spare places count too). A statement '..UptoSaid' is the law's where the arguments, and the package variables that the reading takes, are together of bulk at most 1048576: NARROWER than '..Said'. Prove '..Said' where nothing that the law and all that it calls make is longer than what came in: it says more and counts as full. Else prove '..UptoSaid'. A law counts once. -/
mutual
def uptoBulk {H : Type} : DataW H → Nat
  | .lit (.string bytes) => bytes.length + 1
  | .lit _ => 1
  | .nil => 1
  | .ptr d => uptoBulk d + 1
  | .slice elems spare => uptoBulkAll elems + uptoBulkAll spare + 1
  | .agg parts => uptoBulkAll parts + 1
  | .iface _ d => uptoBulk d + 1
  | .map entries => uptoBulkEntries entries + 1
  | .held _ => 1
def uptoBulkAll {H : Type} : List (DataW H) → Nat
  | [] => 0
  | d :: r => uptoBulk d + uptoBulkAll r
def uptoBulkEntries {H : Type} : List (Lit × DataW H) → Nat
  | [] => 0
  | x :: r => uptoBulkEntry x + uptoBulkEntries r
def uptoBulkEntry {H : Type} : Lit × DataW H → Nat
  | (.string bytes, d) => bytes.length + uptoBulk d + 1
  | (_, d) => uptoBulk d + 1
 end
def uptoSmall : (H : Type) → List (DataW H) → Bool := fun _ ds => decide (uptoBulkAll ds ≤ 1048576)
def OpenSpec.upto (s : _root_.Go.ChangeSpec) : _root_.Go.OpenSpec := { _root_.Go.OpenSpec.ofChange s with cond := some uptoSmall }

/-- 'cameolaw18.BeamCounts', WHERE WHAT IT READS IS OF BULK AT MOST 1048576: true; the input reads as it did. -/
def beamCountsUptoRow : OpenClaim := { program := "ytmdjhdpgbpfedaa", sum := "966997436e51c29a9d841f6acfe5b1b01aabbbb2bb495d53be0d68532e2fed6c", func := "cameo/cameolaw18.BeamCounts", spec := "beamCounts", apart := false, narrowed := true }
def BeamCountsUptoSaid : Prop := beamCountsUptoRow.holds Try.pinned (OpenSpec.upto beamCountsSpec)

/-- 'cameolaw18.BeamTells', WHERE WHAT IT READS IS OF BULK AT MOST 1048576: true; the input reads as it did. -/
def beamTellsUptoRow : OpenClaim := { program := "ytmdjhdpgbpfedaa", sum := "966997436e51c29a9d841f6acfe5b1b01aabbbb2bb495d53be0d68532e2fed6c", func := "cameo/cameolaw18.BeamTells", spec := "beamTells", apart := false, narrowed := true }
def BeamTellsUptoSaid : Prop := beamTellsUptoRow.holds Try.pinned (OpenSpec.upto beamTellsSpec)

/-- 'cameolaw18.BeamStays', WHERE WHAT IT READS IS OF BULK AT MOST 1048576: true; the input reads as it did. -/
def beamStaysUptoRow : OpenClaim := { program := "ytmdjhdpgbpfedaa", sum := "966997436e51c29a9d841f6acfe5b1b01aabbbb2bb495d53be0d68532e2fed6c", func := "cameo/cameolaw18.BeamStays", spec := "beamStays", apart := false, narrowed := true }
def BeamStaysUptoSaid : Prop := beamStaysUptoRow.holds Try.pinned (OpenSpec.upto beamStaysSpec)

/-- 'cameolaw18.BeamTurns', WHERE WHAT IT READS IS OF BULK AT MOST 1048576: true; the input reads as it did. -/
def beamTurnsUptoRow : OpenClaim := { program := "ytmdjhdpgbpfedaa", sum := "966997436e51c29a9d841f6acfe5b1b01aabbbb2bb495d53be0d68532e2fed6c", func := "cameo/cameolaw18.BeamTurns", spec := "beamTurns", apart := false, narrowed := true }
def BeamTurnsUptoSaid : Prop := beamTurnsUptoRow.holds Try.pinned (OpenSpec.upto beamTurnsSpec)

end Rows
end Go.Proofs.Ytmdjhdpgbpfedaa
