-- Printed by a program of this session (wip/tools/myprint.py) that runs the kit's print with contracts of this session's own.
import Derived.Test.YtmmpdpnonnjadaaPrx0
import Derived.Test.YtmmpdpnonnjadaaPrx1
import Derived.Test.YtmmpdpnonnjadaaPrx2
namespace Go.Proofs.Ytmmpdpnonnjadaa.Pr
open Go.RowKit Go.Proofs.YtmmpdpnonnjadaaW.PrintWords Go.Proofs.YtmmpdpnonnjadaaW.PrintLast Go.Proofs.YtmmpdpnonnjadaaW.PrintMore
attribute [local go_sem] max2_int min2_int max_two min_two max_three min_three max_four min_four   -- for this text's walks alone
set_option linter.unusedVariables false
set_option linter.unusedSimpArgs false

end Go.Proofs.Ytmmpdpnonnjadaa.Pr
