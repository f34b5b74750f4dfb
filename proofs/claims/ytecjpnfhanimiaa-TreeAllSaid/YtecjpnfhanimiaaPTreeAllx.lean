-- Written by gp.py (this project's driver over the kit's print) out of the translation and wip/given; Lean checks it.
import Derived.Test.YtecjpnfhanimiaaPTreeAllx0
import Derived.Test.YtecjpnfhanimiaaPTreeAllx1
import Derived.Test.YtecjpnfhanimiaaPTreeAllx2
import Derived.Test.YtecjpnfhanimiaaPTreeAllx3
namespace Go.Proofs.Ytecjpnfhanimiaa.PTreeAll
open Go.RowKit Go.Proofs.YtecjpnfhanimiaaR Go.Proofs.YtecjpnfhanimiaaW.PrintWords Go.Proofs.YtecjpnfhanimiaaW.PrintLast Go.Proofs.YtecjpnfhanimiaaW.PrintMore
attribute [local go_sem] max2_int min2_int max_two min_two max_three min_three max_four min_four   -- for this text's walks alone
set_option linter.unusedVariables false
set_option linter.unusedSimpArgs false

end Go.Proofs.Ytecjpnfhanimiaa.PTreeAll
