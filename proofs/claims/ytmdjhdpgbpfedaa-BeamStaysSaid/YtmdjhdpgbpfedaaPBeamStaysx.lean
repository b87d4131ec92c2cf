-- written by a program of this session (wip/patch_print.py over the printer of the kit)
import Derived.Test.YtmdjhdpgbpfedaaPBeamStaysx0
import Derived.Test.YtmdjhdpgbpfedaaPBeamStaysx1
namespace Go.Proofs.Ytmdjhdpgbpfedaa.PBeamStays
open Go.RowKit Go.Proofs.YtmdjhdpgbpfedaaW.PrintWords Go.Proofs.YtmdjhdpgbpfedaaW.PrintLast Go.Proofs.YtmdjhdpgbpfedaaW.PrintMore
attribute [local go_sem] max2_int min2_int max_two min_two max_three min_three max_four min_four   -- for this text's walks alone
set_option linter.unusedVariables false
set_option linter.unusedSimpArgs false

end Go.Proofs.Ytmdjhdpgbpfedaa.PBeamStays
