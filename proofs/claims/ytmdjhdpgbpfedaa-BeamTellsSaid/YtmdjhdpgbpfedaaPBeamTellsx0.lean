-- written by a program of this session (wip/patch_print.py over the printer of the kit)
import Derived.Test.YtmdjhdpgbpfedaaProg
import Derived.Below
import Derived.Deep.Draws
import Derived.Deep.AppendLies
import Derived.Maps.AppendAt
import Derived.OwnWalk
import Derived.Laws.BytesArg
import Derived.Laws.MakeOwn
import Derived.Laws.OwnMore
import Derived.Deep.OwnRows
import Derived.Tactics
import Derived.Lib.ConvBytes
import Derived.Laws.Slices
import Derived.WalkKit
import Derived.KernelRfl
import Derived.RowKit3
import Derived.Deep.LoopGhost
import Derived.Deep.QuietTactic
import Derived.BigQuiet
import Derived.WideLaws
import Derived.Deep.DeepCutAuto
import Derived.Deep.CutBlock
import Derived.Deep.RegionHeld3
import Derived.Laws.Rows
import Derived.Lib.AppendStr
import Derived.ArgAppend
import Derived.Laws.IdiomCopy
import Derived.OrdersHeld
import Derived.Laws.BitsLemmas
import Derived.RowKit
import Derived.Test.YtmdjhdpgbpfedaaWWords
import Derived.Test.YtmdjhdpgbpfedaaWLast
import Derived.Test.YtmdjhdpgbpfedaaWTab
import Derived.Test.YtmdjhdpgbpfedaaWFour
import Derived.Test.YtmdjhdpgbpfedaaWQPut
import Derived.Test.YtmdjhdpgbpfedaaWApart
import Derived.Test.YtmdjhdpgbpfedaaWArr
import Derived.Test.YtmdjhdpgbpfedaaWZeros
import Derived.Test.YtmdjhdpgbpfedaaWFoot
import Derived.Test.YtmdjhdpgbpfedaaWKept
import Derived.Test.YtmdjhdpgbpfedaaWShare
import Derived.Test.YtmdjhdpgbpfedaaWN
import Derived.Test.YtmdjhdpgbpfedaaWFootNe
import Derived.Test.YtmdjhdpgbpfedaaWAt
import Derived.Test.YtmdjhdpgbpfedaaWEqStruct
import Derived.Test.YtmdjhdpgbpfedaaWRepsOne
import Derived.Test.YtmdjhdpgbpfedaaWInv
import Derived.Test.YtmdjhdpgbpfedaaWInvWords
import Derived.Test.YtmdjhdpgbpfedaaWGuard
import Derived.Test.YtmdjhdpgbpfedaaWNEv
import Derived.Test.YtmdjhdpgbpfedaaWMore
namespace Go.Proofs.Ytmdjhdpgbpfedaa.PBeamTells
open Go.RowKit Go.Proofs.YtmdjhdpgbpfedaaW.PrintWords Go.Proofs.YtmdjhdpgbpfedaaW.PrintLast Go.Proofs.YtmdjhdpgbpfedaaW.PrintMore
attribute [local go_sem] max2_int min2_int max_two min_two max_three min_three max_four min_four   -- for this text's walks alone
set_option linter.unusedVariables false
set_option linter.unusedSimpArgs false



def errW : Option Int → Value
  | none => .nilIface
  | some c => .iface 0 (.int .i64 c)
theorem errW_none : errW none = .nilIface := rfl
theorem errW_some (c : Int) : errW (some c) = .iface 0 (.int .i64 c) := rfl

-- the values' own types

end Go.Proofs.Ytmdjhdpgbpfedaa.PBeamTells
