-- Printed by a program of this session (wip/tools/myprint.py) that runs the kit's print with contracts of this session's own.
import Derived.Test.YtncmebefgklpjaaPrx0
import Derived.Test.YtncmebefgklpjaaPrx1
import Derived.Test.YtncmebefgklpjaaPrx2
namespace Go.Proofs.Ytncmebefgklpjaa.Pr
open Go.RowKit Go.Proofs.YtncmebefgklpjaaW.PrintWords Go.Proofs.YtncmebefgklpjaaW.PrintLast Go.Proofs.YtncmebefgklpjaaW.PrintMore
attribute [local go_sem] max2_int min2_int max_two min_two max_three min_three max_four min_four   -- for this text's walks alone
set_option linter.unusedVariables false
set_option linter.unusedSimpArgs false

end Go.Proofs.Ytncmebefgklpjaa.Pr
