/-
  No cell of these rows narrows 'for every input' (looked for: loops, veiled, ifaces, maps, wideKeys, modest, calm, conditions, laid).
  DERIVED. THE GIVEN ROWS OF THIS SEAT. 6 by the template 'for every input the law returns true; each argument reads behind the call as it read before'; 0 by the template 'total and deterministic' (their statements: YtgpcgamhlcihkaaTotals.lean).
  GIVEN WITH THE SEED: the statements are not yours to turn. If you find one false, say at which input.
  Laid BY PROGRAM, IN A SANDBOX (cutbox-rows.mjs): the forced cells as the released guide's own fill.sh prints them over the translation e5acc8254967d599… (all of the seat's roots in one cut). By AI agents, Wed Nov 11 2026. No macro, syntax, notation, axiom, sorry.
-/
import Derived.Test.YtgpcgamhlcihkaaChecked
import GoSem.Claim
import GoSem.ClaimJoined
import GoSem.ClaimMapViews
import Derived.JoinedTies
import Derived.KernelRfl
namespace Go.Proofs.Ytgpcgamhlcihkaa
/- THE CELL 'sum', in the pinned program and in every row, IS THE sha256 OF THE DUMP (.gsa) THAT YtgpcgamhlcihkaaProg.lean LOADS. Nothing in Lean hashes anything: it is a label: what it is worth is what the hold of that sum in a sandbox is worth. -/
noncomputable def Try.pinned : Pinned := { name := "ytgpcgamhlcihkaa", sum := "e5acc8254967d5992f127a9e90e814f666881a7fceec19aa7e41a46abee121d1", checked := Try.checked }
namespace Rows
def none {H : Type} : Left H := { results := [], args := [] }

/-- 'cameolaw09.AluChains': WHATEVER THE INPUT: true; the input reads as it did. -/
def aluChainsSpec : ChangeSpec := { name := "aluChains", fn := fun _ => fun
  | [d1, d2] => { results := [.lit (.bool true)], args := [d1, d2] }
  | _ => none }
def aluChainsRow : OpenClaim := { program := "ytgpcgamhlcihkaa", sum := "e5acc8254967d5992f127a9e90e814f666881a7fceec19aa7e41a46abee121d1", func := "cameo/cameolaw09.AluChains", spec := "aluChains", unfollowed := true, recurses := true, apart := false }
def AluChainsSaid : Prop := aluChainsRow.holds Try.pinned (OpenSpec.ofChange aluChainsSpec)

/-- ITS FALSE NEIGHBOUR: 'it returns false'. Refute it at one input. -/
def aluChainsWrong : ChangeSpec := { name := "aluChains", fn := fun _ => fun
  | [d1, d2] => { results := [.lit (.bool false)], args := [d1, d2] }
  | _ => none }
def AluChainsWrongFalsely : Prop := aluChainsRow.holds Try.pinned (OpenSpec.ofChange aluChainsWrong)

/-- 'cameolaw09.AluDoes': WHATEVER THE INPUT: true; the input reads as it did. -/
def aluDoesSpec : ChangeSpec := { name := "aluDoes", fn := fun _ => fun
  | [d] => { results := [.lit (.bool true)], args := [d] }
  | _ => none }
def aluDoesRow : OpenClaim := { program := "ytgpcgamhlcihkaa", sum := "e5acc8254967d5992f127a9e90e814f666881a7fceec19aa7e41a46abee121d1", func := "cameo/cameolaw09.AluDoes", spec := "aluDoes", unfollowed := true, recurses := true, apart := false }
def AluDoesSaid : Prop := aluDoesRow.holds Try.pinned (OpenSpec.ofChange aluDoesSpec)

/-- ITS FALSE NEIGHBOUR: 'it returns false'. Refute it at one input. -/
def aluDoesWrong : ChangeSpec := { name := "aluDoes", fn := fun _ => fun
  | [d] => { results := [.lit (.bool false)], args := [d] }
  | _ => none }
def AluDoesWrongFalsely : Prop := aluDoesRow.holds Try.pinned (OpenSpec.ofChange aluDoesWrong)

/-- 'cameolaw09.AluSigns': WHATEVER THE INPUT: true; the input reads as it did. -/
def aluSignsSpec : ChangeSpec := { name := "aluSigns", fn := fun _ => fun
  | [d1, d2, d3] => { results := [.lit (.bool true)], args := [d1, d2, d3] }
  | _ => none }
def aluSignsRow : OpenClaim := { program := "ytgpcgamhlcihkaa", sum := "e5acc8254967d5992f127a9e90e814f666881a7fceec19aa7e41a46abee121d1", func := "cameo/cameolaw09.AluSigns", spec := "aluSigns", unfollowed := true, recurses := true, apart := false }
def AluSignsSaid : Prop := aluSignsRow.holds Try.pinned (OpenSpec.ofChange aluSignsSpec)

/-- ITS FALSE NEIGHBOUR: 'it returns false'. Refute it at one input. -/
def aluSignsWrong : ChangeSpec := { name := "aluSigns", fn := fun _ => fun
  | [d1, d2, d3] => { results := [.lit (.bool false)], args := [d1, d2, d3] }
  | _ => none }
def AluSignsWrongFalsely : Prop := aluSignsRow.holds Try.pinned (OpenSpec.ofChange aluSignsWrong)

/-- 'cameolaw09.AluHolds': WHATEVER THE INPUT: true; the input reads as it did. -/
def aluHoldsSpec : ChangeSpec := { name := "aluHolds", fn := fun _ => fun
  | [d1, d2] => { results := [.lit (.bool true)], args := [d1, d2] }
  | _ => none }
def aluHoldsRow : OpenClaim := { program := "ytgpcgamhlcihkaa", sum := "e5acc8254967d5992f127a9e90e814f666881a7fceec19aa7e41a46abee121d1", func := "cameo/cameolaw09.AluHolds", spec := "aluHolds", unfollowed := true, recurses := true, apart := false }
def AluHoldsSaid : Prop := aluHoldsRow.holds Try.pinned (OpenSpec.ofChange aluHoldsSpec)

/-- ITS FALSE NEIGHBOUR: 'it returns false'. Refute it at one input. -/
def aluHoldsWrong : ChangeSpec := { name := "aluHolds", fn := fun _ => fun
  | [d1, d2] => { results := [.lit (.bool false)], args := [d1, d2] }
  | _ => none }
def AluHoldsWrongFalsely : Prop := aluHoldsRow.holds Try.pinned (OpenSpec.ofChange aluHoldsWrong)

/-- 'cameolaw09.AluMuls': WHATEVER THE INPUT: true; the input reads as it did. -/
def aluMulsSpec : ChangeSpec := { name := "aluMuls", fn := fun _ => fun
  | [d1, d2] => { results := [.lit (.bool true)], args := [d1, d2] }
  | _ => none }
def aluMulsRow : OpenClaim := { program := "ytgpcgamhlcihkaa", sum := "e5acc8254967d5992f127a9e90e814f666881a7fceec19aa7e41a46abee121d1", func := "cameo/cameolaw09.AluMuls", spec := "aluMuls", unfollowed := true, recurses := true, apart := false }
def AluMulsSaid : Prop := aluMulsRow.holds Try.pinned (OpenSpec.ofChange aluMulsSpec)

/-- ITS FALSE NEIGHBOUR: 'it returns false'. Refute it at one input. -/
def aluMulsWrong : ChangeSpec := { name := "aluMuls", fn := fun _ => fun
  | [d1, d2] => { results := [.lit (.bool false)], args := [d1, d2] }
  | _ => none }
def AluMulsWrongFalsely : Prop := aluMulsRow.holds Try.pinned (OpenSpec.ofChange aluMulsWrong)

/-- 'cameolaw09.AluOrder': WHATEVER THE INPUT: true; the input reads as it did. -/
def aluOrderSpec : ChangeSpec := { name := "aluOrder", fn := fun _ => fun
  | [d1, d2, d3] => { results := [.lit (.bool true)], args := [d1, d2, d3] }
  | _ => none }
def aluOrderRow : OpenClaim := { program := "ytgpcgamhlcihkaa", sum := "e5acc8254967d5992f127a9e90e814f666881a7fceec19aa7e41a46abee121d1", func := "cameo/cameolaw09.AluOrder", spec := "aluOrder", unfollowed := true, recurses := true, apart := false }
def AluOrderSaid : Prop := aluOrderRow.holds Try.pinned (OpenSpec.ofChange aluOrderSpec)

/-- ITS FALSE NEIGHBOUR: 'it returns false'. Refute it at one input. -/
def aluOrderWrong : ChangeSpec := { name := "aluOrder", fn := fun _ => fun
  | [d1, d2, d3] => { results := [.lit (.bool false)], args := [d1, d2, d3] }
  | _ => none }
def AluOrderWrongFalsely : Prop := aluOrderRow.holds Try.pinned (OpenSpec.ofChange aluOrderWrong)

/- THE SECOND FORM. 'bulk': how many values and letters a reading holds, each counted each time it is reached (what is shared counts as often as it is met; a slice's spare places count too). A statement '..UptoSaid' is the law's where the arguments, and the package variables that the reading takes, are together of bulk at most 1048576: NARROWER than '..Said'. Prove '..Said' where nothing that the law and all that it calls make is longer than what came in: it says more and counts as full. Else prove '..UptoSaid'. A law counts once. -/
mutual
def uptoBulk {H : Type} : DataW H → Nat
  | .lit (.string bytes) => bytes.length + 1
  | .lit _ => 1
  | .nil => 1
  | .ptr d => uptoBulk d + 1
  | .slice elems spare => uptoBulkAll elems + uptoBulkAll spare + 1
  | .agg parts => uptoBulkAll parts + 1
  | .iface _ d => uptoBulk d + 1
  | .map entries => uptoBulkEntries entries + 1
  | .held _ => 1
def uptoBulkAll {H : Type} : List (DataW H) → Nat
  | [] => 0
  | d :: r => uptoBulk d + uptoBulkAll r
def uptoBulkEntries {H : Type} : List (Lit × DataW H) → Nat
  | [] => 0
  | x :: r => uptoBulkEntry x + uptoBulkEntries r
def uptoBulkEntry {H : Type} : Lit × DataW H → Nat
  | (.string bytes, d) => bytes.length + uptoBulk d + 1
  | (_, d) => uptoBulk d + 1
 end
def uptoSmall : (H : Type) → List (DataW H) → Bool := fun _ ds => decide (uptoBulkAll ds ≤ 1048576)
def OpenSpec.upto (s : _root_.Go.ChangeSpec) : _root_.Go.OpenSpec := { _root_.Go.OpenSpec.ofChange s with cond := some uptoSmall }

/-- 'cameolaw09.AluChains', WHERE WHAT IT READS IS OF BULK AT MOST 1048576: true; the input reads as it did. -/
def aluChainsUptoRow : OpenClaim := { program := "ytgpcgamhlcihkaa", sum := "e5acc8254967d5992f127a9e90e814f666881a7fceec19aa7e41a46abee121d1", func := "cameo/cameolaw09.AluChains", spec := "aluChains", unfollowed := true, recurses := true, apart := false, narrowed := true }
def AluChainsUptoSaid : Prop := aluChainsUptoRow.holds Try.pinned (OpenSpec.upto aluChainsSpec)

/-- 'cameolaw09.AluDoes', WHERE WHAT IT READS IS OF BULK AT MOST 1048576: true; the input reads as it did. -/
def aluDoesUptoRow : OpenClaim := { program := "ytgpcgamhlcihkaa", sum := "e5acc8254967d5992f127a9e90e814f666881a7fceec19aa7e41a46abee121d1", func := "cameo/cameolaw09.AluDoes", spec := "aluDoes", unfollowed := true, recurses := true, apart := false, narrowed := true }
def AluDoesUptoSaid : Prop := aluDoesUptoRow.holds Try.pinned (OpenSpec.upto aluDoesSpec)

/-- 'cameolaw09.AluSigns', WHERE WHAT IT READS IS OF BULK AT MOST 1048576: true; the input reads as it did. -/
def aluSignsUptoRow : OpenClaim := { program := "ytgpcgamhlcihkaa", sum := "e5acc8254967d5992f127a9e90e814f666881a7fceec19aa7e41a46abee121d1", func := "cameo/cameolaw09.AluSigns", spec := "aluSigns", unfollowed := true, recurses := true, apart := false, narrowed := true }
def AluSignsUptoSaid : Prop := aluSignsUptoRow.holds Try.pinned (OpenSpec.upto aluSignsSpec)

/-- 'cameolaw09.AluHolds', WHERE WHAT IT READS IS OF BULK AT MOST 1048576: true; the input reads as it did. -/
def aluHoldsUptoRow : OpenClaim := { program := "ytgpcgamhlcihkaa", sum := "e5acc8254967d5992f127a9e90e814f666881a7fceec19aa7e41a46abee121d1", func := "cameo/cameolaw09.AluHolds", spec := "aluHolds", unfollowed := true, recurses := true, apart := false, narrowed := true }
def AluHoldsUptoSaid : Prop := aluHoldsUptoRow.holds Try.pinned (OpenSpec.upto aluHoldsSpec)

/-- 'cameolaw09.AluMuls', WHERE WHAT IT READS IS OF BULK AT MOST 1048576: true; the input reads as it did. -/
def aluMulsUptoRow : OpenClaim := { program := "ytgpcgamhlcihkaa", sum := "e5acc8254967d5992f127a9e90e814f666881a7fceec19aa7e41a46abee121d1", func := "cameo/cameolaw09.AluMuls", spec := "aluMuls", unfollowed := true, recurses := true, apart := false, narrowed := true }
def AluMulsUptoSaid : Prop := aluMulsUptoRow.holds Try.pinned (OpenSpec.upto aluMulsSpec)

/-- 'cameolaw09.AluOrder', WHERE WHAT IT READS IS OF BULK AT MOST 1048576: true; the input reads as it did. -/
def aluOrderUptoRow : OpenClaim := { program := "ytgpcgamhlcihkaa", sum := "e5acc8254967d5992f127a9e90e814f666881a7fceec19aa7e41a46abee121d1", func := "cameo/cameolaw09.AluOrder", spec := "aluOrder", unfollowed := true, recurses := true, apart := false, narrowed := true }
def AluOrderUptoSaid : Prop := aluOrderUptoRow.holds Try.pinned (OpenSpec.upto aluOrderSpec)

end Rows
end Go.Proofs.Ytgpcgamhlcihkaa
