/-
  No cell of these rows narrows 'for every input' (looked for: loops, veiled, ifaces, maps, wideKeys, modest, calm, conditions, laid).
  DERIVED. THE GIVEN ROWS OF THIS SEAT. 5 by the template 'for every input the law returns true; each argument reads behind the call as it read before'; 0 by the template 'total and deterministic' (their statements: YtkbjjkolhhmafaaTotals.lean).
  GIVEN WITH THE SEED: the statements are not yours to turn. If you find one false, say at which input.
  Laid BY PROGRAM, IN A SANDBOX (cutbox-rows.mjs): the forced cells as the released guide's own fill.sh prints them over the translation 738e23973c1452da… (all of the seat's roots in one cut). By AI agents, Wed Nov 11 2026. No macro, syntax, notation, axiom, sorry.
-/
import Derived.Test.YtkbjjkolhhmafaaChecked
import GoSem.Claim
import GoSem.ClaimJoined
import GoSem.ClaimMapViews
import Derived.JoinedTies
import Derived.KernelRfl
namespace Go.Proofs.Ytkbjjkolhhmafaa
/- THE CELL 'sum', in the pinned program and in every row, IS THE sha256 OF THE DUMP (.gsa) THAT YtkbjjkolhhmafaaProg.lean LOADS. Nothing in Lean hashes anything: it is a label: what it is worth is what the hold of that sum in a sandbox is worth. -/
noncomputable def Try.pinned : Pinned := { name := "ytkbjjkolhhmafaa", sum := "738e23973c1452daf205753a57bc9f8325fc1b37c2c8a08cc465d9079dc1c34f", checked := Try.checked }
namespace Rows
def none {H : Type} : Left H := { results := [], args := [] }

/-- 'cameolaw16.TimerJumps': WHATEVER THE INPUT: true; the input reads as it did. -/
def timerJumpsSpec : ChangeSpec := { name := "timerJumps", fn := fun _ => fun
  | [d] => { results := [.lit (.bool true)], args := [d] }
  | _ => none }
def timerJumpsRow : OpenClaim := { program := "ytkbjjkolhhmafaa", sum := "738e23973c1452daf205753a57bc9f8325fc1b37c2c8a08cc465d9079dc1c34f", func := "cameo/cameolaw16.TimerJumps", spec := "timerJumps", apart := false }
def TimerJumpsSaid : Prop := timerJumpsRow.holds Try.pinned (OpenSpec.ofChange timerJumpsSpec)

/-- ITS FALSE NEIGHBOUR: 'it returns false'. Refute it at one input. -/
def timerJumpsWrong : ChangeSpec := { name := "timerJumps", fn := fun _ => fun
  | [d] => { results := [.lit (.bool false)], args := [d] }
  | _ => none }
def TimerJumpsWrongFalsely : Prop := timerJumpsRow.holds Try.pinned (OpenSpec.ofChange timerJumpsWrong)

/-- 'cameolaw16.TimerPeriod': WHATEVER THE INPUT: true; the input reads as it did. -/
def timerPeriodSpec : ChangeSpec := { name := "timerPeriod", fn := fun _ => fun
  | [d1, d2, d3] => { results := [.lit (.bool true)], args := [d1, d2, d3] }
  | _ => none }
def timerPeriodRow : OpenClaim := { program := "ytkbjjkolhhmafaa", sum := "738e23973c1452daf205753a57bc9f8325fc1b37c2c8a08cc465d9079dc1c34f", func := "cameo/cameolaw16.TimerPeriod", spec := "timerPeriod", apart := false }
def TimerPeriodSaid : Prop := timerPeriodRow.holds Try.pinned (OpenSpec.ofChange timerPeriodSpec)

/-- ITS FALSE NEIGHBOUR: 'it returns false'. Refute it at one input. -/
def timerPeriodWrong : ChangeSpec := { name := "timerPeriod", fn := fun _ => fun
  | [d1, d2, d3] => { results := [.lit (.bool false)], args := [d1, d2, d3] }
  | _ => none }
def TimerPeriodWrongFalsely : Prop := timerPeriodRow.holds Try.pinned (OpenSpec.ofChange timerPeriodWrong)

/-- 'cameolaw16.TimerChain': WHATEVER THE INPUT: true; the input reads as it did. -/
def timerChainSpec : ChangeSpec := { name := "timerChain", fn := fun _ => fun
  | [d1, d2] => { results := [.lit (.bool true)], args := [d1, d2] }
  | _ => none }
def timerChainRow : OpenClaim := { program := "ytkbjjkolhhmafaa", sum := "738e23973c1452daf205753a57bc9f8325fc1b37c2c8a08cc465d9079dc1c34f", func := "cameo/cameolaw16.TimerChain", spec := "timerChain", apart := false }
def TimerChainSaid : Prop := timerChainRow.holds Try.pinned (OpenSpec.ofChange timerChainSpec)

/-- ITS FALSE NEIGHBOUR: 'it returns false'. Refute it at one input. -/
def timerChainWrong : ChangeSpec := { name := "timerChain", fn := fun _ => fun
  | [d1, d2] => { results := [.lit (.bool false)], args := [d1, d2] }
  | _ => none }
def TimerChainWrongFalsely : Prop := timerChainRow.holds Try.pinned (OpenSpec.ofChange timerChainWrong)

/-- 'cameolaw16.TimerRuns': WHATEVER THE INPUT: true; the input reads as it did. -/
def timerRunsSpec : ChangeSpec := { name := "timerRuns", fn := fun _ => fun
  | [d] => { results := [.lit (.bool true)], args := [d] }
  | _ => none }
def timerRunsRow : OpenClaim := { program := "ytkbjjkolhhmafaa", sum := "738e23973c1452daf205753a57bc9f8325fc1b37c2c8a08cc465d9079dc1c34f", func := "cameo/cameolaw16.TimerRuns", spec := "timerRuns", apart := false }
def TimerRunsSaid : Prop := timerRunsRow.holds Try.pinned (OpenSpec.ofChange timerRunsSpec)

/-- ITS FALSE NEIGHBOUR: 'it returns false'. Refute it at one input. -/
def timerRunsWrong : ChangeSpec := { name := "timerRuns", fn := fun _ => fun
  | [d] => { results := [.lit (.bool false)], args := [d] }
  | _ => none }
def TimerRunsWrongFalsely : Prop := timerRunsRow.holds Try.pinned (OpenSpec.ofChange timerRunsWrong)

/-- 'cameolaw16.TimerNone': WHATEVER THE INPUT: true; the input reads as it did. -/
def timerNoneSpec : ChangeSpec := { name := "timerNone", fn := fun _ => fun
  | [d1, d2] => { results := [.lit (.bool true)], args := [d1, d2] }
  | _ => none }
def timerNoneRow : OpenClaim := { program := "ytkbjjkolhhmafaa", sum := "738e23973c1452daf205753a57bc9f8325fc1b37c2c8a08cc465d9079dc1c34f", func := "cameo/cameolaw16.TimerNone", spec := "timerNone", apart := false }
def TimerNoneSaid : Prop := timerNoneRow.holds Try.pinned (OpenSpec.ofChange timerNoneSpec)

/-- ITS FALSE NEIGHBOUR: 'it returns false'. Refute it at one input. -/
def timerNoneWrong : ChangeSpec := { name := "timerNone", fn := fun _ => fun
  | [d1, d2] => { results := [.lit (.bool false)], args := [d1, d2] }
  | _ => none }
def TimerNoneWrongFalsely : Prop := timerNoneRow.holds Try.pinned (OpenSpec.ofChange timerNoneWrong)

/- THE SECOND FORM. 'bulk': how many values and letters a reading holds, each counted each time it is reached (what is shared counts as often as it is met; a slice's spare places count too). A statement '..UptoSaid' is the law's where the arguments, and the package variables that the reading takes, are together of bulk at most 1048576: NARROWER than '..Said'. Prove '..Said' where nothing that the law and all that it calls make is longer than what came in: it says more and counts as full. Else prove '..UptoSaid'. A law counts once. -/
mutual
def uptoBulk {H : Type} : DataW H → Nat
  | .lit (.string bytes) => bytes.length + 1
  | .lit _ => 1
  | .nil => 1
  | .ptr d => uptoBulk d + 1
  | .slice elems spare => uptoBulkAll elems + uptoBulkAll spare + 1
  | .agg parts => uptoBulkAll parts + 1
  | .iface _ d => uptoBulk d + 1
  | .map entries => uptoBulkEntries entries + 1
  | .held _ => 1
def uptoBulkAll {H : Type} : List (DataW H) → Nat
  | [] => 0
  | d :: r => uptoBulk d + uptoBulkAll r
def uptoBulkEntries {H : Type} : List (Lit × DataW H) → Nat
  | [] => 0
  | x :: r => uptoBulkEntry x + uptoBulkEntries r
def uptoBulkEntry {H : Type} : Lit × DataW H → Nat
  | (.string bytes, d) => bytes.length + uptoBulk d + 1
  | (_, d) => uptoBulk d + 1
 end
def uptoSmall : (H : Type) → List (DataW H) → Bool := fun _ ds => decide (uptoBulkAll ds ≤ 1048576)
def OpenSpec.upto (s : _root_.Go.ChangeSpec) : _root_.Go.OpenSpec := { _root_.Go.OpenSpec.ofChange s with cond := some uptoSmall }

/-- 'cameolaw16.TimerJumps', WHERE WHAT IT READS IS OF BULK AT MOST 1048576: true; the input reads as it did. -/
def timerJumpsUptoRow : OpenClaim := { program := "ytkbjjkolhhmafaa", sum := "738e23973c1452daf205753a57bc9f8325fc1b37c2c8a08cc465d9079dc1c34f", func := "cameo/cameolaw16.TimerJumps", spec := "timerJumps", apart := false, narrowed := true }
def TimerJumpsUptoSaid : Prop := timerJumpsUptoRow.holds Try.pinned (OpenSpec.upto timerJumpsSpec)

/-- 'cameolaw16.TimerPeriod', WHERE WHAT IT READS IS OF BULK AT MOST 1048576: true; the input reads as it did. -/
def timerPeriodUptoRow : OpenClaim := { program := "ytkbjjkolhhmafaa", sum := "738e23973c1452daf205753a57bc9f8325fc1b37c2c8a08cc465d9079dc1c34f", func := "cameo/cameolaw16.TimerPeriod", spec := "timerPeriod", apart := false, narrowed := true }
def TimerPeriodUptoSaid : Prop := timerPeriodUptoRow.holds Try.pinned (OpenSpec.upto timerPeriodSpec)

/-- 'cameolaw16.TimerChain', WHERE WHAT IT READS IS OF BULK AT MOST 1048576: true; the input reads as it did. -/
def timerChainUptoRow : OpenClaim := { program := "ytkbjjkolhhmafaa", sum := "738e23973c1452daf205753a57bc9f8325fc1b37c2c8a08cc465d9079dc1c34f", func := "cameo/cameolaw16.TimerChain", spec := "timerChain", apart := false, narrowed := true }
def TimerChainUptoSaid : Prop := timerChainUptoRow.holds Try.pinned (OpenSpec.upto timerChainSpec)

/-- 'cameolaw16.TimerRuns', WHERE WHAT IT READS IS OF BULK AT MOST 1048576: true; the input reads as it did. -/
def timerRunsUptoRow : OpenClaim := { program := "ytkbjjkolhhmafaa", sum := "738e23973c1452daf205753a57bc9f8325fc1b37c2c8a08cc465d9079dc1c34f", func := "cameo/cameolaw16.TimerRuns", spec := "timerRuns", apart := false, narrowed := true }
def TimerRunsUptoSaid : Prop := timerRunsUptoRow.holds Try.pinned (OpenSpec.upto timerRunsSpec)

/-- 'cameolaw16.TimerNone', WHERE WHAT IT READS IS OF BULK AT MOST 1048576: true; the input reads as it did. -/
def timerNoneUptoRow : OpenClaim := { program := "ytkbjjkolhhmafaa", sum := "738e23973c1452daf205753a57bc9f8325fc1b37c2c8a08cc465d9079dc1c34f", func := "cameo/cameolaw16.TimerNone", spec := "timerNone", apart := false, narrowed := true }
def TimerNoneUptoSaid : Prop := timerNoneUptoRow.holds Try.pinned (OpenSpec.upto timerNoneSpec)

end Rows
end Go.Proofs.Ytkbjjkolhhmafaa
