/-
  No cell of these rows narrows 'for every input' (looked for: loops, veiled, ifaces, maps, wideKeys, modest, calm, conditions, laid).
  DERIVED. THE GIVEN ROWS OF THIS SEAT. 4 by the template 'for every input the law returns true; each argument reads behind the call as it read before'; 0 by the template 'total and deterministic' (their statements: YtneiolibkclkoaaTotals.lean).
  GIVEN WITH THE SEED: the statements are not yours to turn. If you find one false, say at which input.
  Laid BY PROGRAM, IN A SANDBOX (cutbox-rows.mjs): the forced cells as the released guide's own fill.sh prints them over the translation 4456abd8e8c2e033… (all of the seat's roots in one cut). By AI agents, Wed Nov 11 2026. No macro, syntax, notation, axiom, sorry.
-/
import Derived.Test.YtneiolibkclkoaaChecked
import GoSem.Claim
import GoSem.ClaimJoined
import GoSem.ClaimMapViews
import Derived.JoinedTies
import Derived.KernelRfl
namespace Go.Proofs.Ytneiolibkclkoaa
/- THE CELL 'sum', in the pinned program and in every row, IS THE sha256 OF THE DUMP (.gsa) THAT YtneiolibkclkoaaProg.lean LOADS. Nothing in Lean hashes anything: it is a label: what it is worth is what the hold of that sum in a sandbox is worth. -/
noncomputable def Try.pinned : Pinned := { name := "ytneiolibkclkoaa", sum := "4456abd8e8c2e0332a25e014f30e467542c3fdf8e10088491f444d4482abb772", checked := Try.checked }
namespace Rows
def none {H : Type} : Left H := { results := [], args := [] }

/-- 'cameolaw13.BusMaps': WHATEVER THE INPUT: true; the input reads as it did. -/
def busMapsSpec : ChangeSpec := { name := "busMaps", fn := fun _ => fun
  | [d] => { results := [.lit (.bool true)], args := [d] }
  | _ => none }
def busMapsRow : OpenClaim := { program := "ytneiolibkclkoaa", sum := "4456abd8e8c2e0332a25e014f30e467542c3fdf8e10088491f444d4482abb772", func := "cameo/cameolaw13.BusMaps", spec := "busMaps", apart := false }
def BusMapsSaid : Prop := busMapsRow.holds Try.pinned (OpenSpec.ofChange busMapsSpec)

/-- ITS FALSE NEIGHBOUR: 'it returns false'. Refute it at one input. -/
def busMapsWrong : ChangeSpec := { name := "busMaps", fn := fun _ => fun
  | [d] => { results := [.lit (.bool false)], args := [d] }
  | _ => none }
def BusMapsWrongFalsely : Prop := busMapsRow.holds Try.pinned (OpenSpec.ofChange busMapsWrong)

/-- 'cameolaw13.BusGoesOn': WHATEVER THE INPUT: true; the input reads as it did. -/
def busGoesOnSpec : ChangeSpec := { name := "busGoesOn", fn := fun _ => fun
  | [d] => { results := [.lit (.bool true)], args := [d] }
  | _ => none }
def busGoesOnRow : OpenClaim := { program := "ytneiolibkclkoaa", sum := "4456abd8e8c2e0332a25e014f30e467542c3fdf8e10088491f444d4482abb772", func := "cameo/cameolaw13.BusGoesOn", spec := "busGoesOn", apart := false }
def BusGoesOnSaid : Prop := busGoesOnRow.holds Try.pinned (OpenSpec.ofChange busGoesOnSpec)

/-- ITS FALSE NEIGHBOUR: 'it returns false'. Refute it at one input. -/
def busGoesOnWrong : ChangeSpec := { name := "busGoesOn", fn := fun _ => fun
  | [d] => { results := [.lit (.bool false)], args := [d] }
  | _ => none }
def BusGoesOnWrongFalsely : Prop := busGoesOnRow.holds Try.pinned (OpenSpec.ofChange busGoesOnWrong)

/-- 'cameolaw13.BusWaits': WHATEVER THE INPUT: true; the input reads as it did. -/
def busWaitsSpec : ChangeSpec := { name := "busWaits", fn := fun _ => fun
  | [d1, d2] => { results := [.lit (.bool true)], args := [d1, d2] }
  | _ => none }
def busWaitsRow : OpenClaim := { program := "ytneiolibkclkoaa", sum := "4456abd8e8c2e0332a25e014f30e467542c3fdf8e10088491f444d4482abb772", func := "cameo/cameolaw13.BusWaits", spec := "busWaits", apart := false }
def BusWaitsSaid : Prop := busWaitsRow.holds Try.pinned (OpenSpec.ofChange busWaitsSpec)

/-- ITS FALSE NEIGHBOUR: 'it returns false'. Refute it at one input. -/
def busWaitsWrong : ChangeSpec := { name := "busWaits", fn := fun _ => fun
  | [d1, d2] => { results := [.lit (.bool false)], args := [d1, d2] }
  | _ => none }
def BusWaitsWrongFalsely : Prop := busWaitsRow.holds Try.pinned (OpenSpec.ofChange busWaitsWrong)

/-- 'cameolaw13.BusCosts': WHATEVER THE INPUT: true; the input reads as it did. -/
def busCostsSpec : ChangeSpec := { name := "busCosts", fn := fun _ => fun
  | [d] => { results := [.lit (.bool true)], args := [d] }
  | _ => none }
def busCostsRow : OpenClaim := { program := "ytneiolibkclkoaa", sum := "4456abd8e8c2e0332a25e014f30e467542c3fdf8e10088491f444d4482abb772", func := "cameo/cameolaw13.BusCosts", spec := "busCosts", apart := false }
def BusCostsSaid : Prop := busCostsRow.holds Try.pinned (OpenSpec.ofChange busCostsSpec)

/-- ITS FALSE NEIGHBOUR: 'it returns false'. Refute it at one input. -/
def busCostsWrong : ChangeSpec := { name := "busCosts", fn := fun _ => fun
  | [d] => { results := [.lit (.bool false)], args := [d] }
  | _ => none }
def BusCostsWrongFalsely : Prop := busCostsRow.holds Try.pinned (OpenSpec.ofChange busCostsWrong)

/- THE SECOND FORM. 'bulk': how many values and letters a reading holds, each counted each time it is reached (what is shared counts as often as it is met; a slice's spare places count too). A statement '..UptoSaid' is the law's where the arguments, and the package variables that the reading takes, are together of bulk at most 1048576: NARROWER than '..Said'. Prove '..Said' where nothing that the law and all that it calls make is longer than what came in: it says more and counts as full. Else prove '..UptoSaid'. A law counts once. -/
mutual
def uptoBulk {H : Type} : DataW H → Nat
  | .lit (.string bytes) => bytes.length + 1
  | .lit _ => 1
  | .nil => 1
  | .ptr d => uptoBulk d + 1
  | .slice elems spare => uptoBulkAll elems + uptoBulkAll spare + 1
  | .agg parts => uptoBulkAll parts + 1
  | .iface _ d => uptoBulk d + 1
  | .map entries => uptoBulkEntries entries + 1
  | .held _ => 1
def uptoBulkAll {H : Type} : List (DataW H) → Nat
  | [] => 0
  | d :: r => uptoBulk d + uptoBulkAll r
def uptoBulkEntries {H : Type} : List (Lit × DataW H) → Nat
  | [] => 0
  | x :: r => uptoBulkEntry x + uptoBulkEntries r
def uptoBulkEntry {H : Type} : Lit × DataW H → Nat
  | (.string bytes, d) => bytes.length + uptoBulk d + 1
  | (_, d) => uptoBulk d + 1
 end
def uptoSmall : (H : Type) → List (DataW H) → Bool := fun _ ds => decide (uptoBulkAll ds ≤ 1048576)
def OpenSpec.upto (s : _root_.Go.ChangeSpec) : _root_.Go.OpenSpec := { _root_.Go.OpenSpec.ofChange s with cond := some uptoSmall }

/-- 'cameolaw13.BusMaps', WHERE WHAT IT READS IS OF BULK AT MOST 1048576: true; the input reads as it did. -/
def busMapsUptoRow : OpenClaim := { program := "ytneiolibkclkoaa", sum := "4456abd8e8c2e0332a25e014f30e467542c3fdf8e10088491f444d4482abb772", func := "cameo/cameolaw13.BusMaps", spec := "busMaps", apart := false, narrowed := true }
def BusMapsUptoSaid : Prop := busMapsUptoRow.holds Try.pinned (OpenSpec.upto busMapsSpec)

/-- 'cameolaw13.BusGoesOn', WHERE WHAT IT READS IS OF BULK AT MOST 1048576: true; the input reads as it did. -/
def busGoesOnUptoRow : OpenClaim := { program := "ytneiolibkclkoaa", sum := "4456abd8e8c2e0332a25e014f30e467542c3fdf8e10088491f444d4482abb772", func := "cameo/cameolaw13.BusGoesOn", spec := "busGoesOn", apart := false, narrowed := true }
def BusGoesOnUptoSaid : Prop := busGoesOnUptoRow.holds Try.pinned (OpenSpec.upto busGoesOnSpec)

/-- 'cameolaw13.BusWaits', WHERE WHAT IT READS IS OF BULK AT MOST 1048576: true; the input reads as it did. -/
def busWaitsUptoRow : OpenClaim := { program := "ytneiolibkclkoaa", sum := "4456abd8e8c2e0332a25e014f30e467542c3fdf8e10088491f444d4482abb772", func := "cameo/cameolaw13.BusWaits", spec := "busWaits", apart := false, narrowed := true }
def BusWaitsUptoSaid : Prop := busWaitsUptoRow.holds Try.pinned (OpenSpec.upto busWaitsSpec)

/-- 'cameolaw13.BusCosts', WHERE WHAT IT READS IS OF BULK AT MOST 1048576: true; the input reads as it did. -/
def busCostsUptoRow : OpenClaim := { program := "ytneiolibkclkoaa", sum := "4456abd8e8c2e0332a25e014f30e467542c3fdf8e10088491f444d4482abb772", func := "cameo/cameolaw13.BusCosts", spec := "busCosts", apart := false, narrowed := true }
def BusCostsUptoSaid : Prop := busCostsUptoRow.holds Try.pinned (OpenSpec.upto busCostsSpec)

end Rows
end Go.Proofs.Ytneiolibkclkoaa
