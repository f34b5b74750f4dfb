-- Written by gp.py (this project's driver over the kit's print) out of the translation and wip/given; Lean checks it.
import Derived.Test.YteomcpdfbaglaaaPLbtsLaterx0
import Derived.Test.YteomcpdfbaglaaaPLbtsLaterx1
import Derived.Test.YteomcpdfbaglaaaPLbtsLaterx2
import Derived.Test.YteomcpdfbaglaaaPLbtsLaterx3
import Derived.Test.YteomcpdfbaglaaaPLbtsLaterx4
import Derived.Test.YteomcpdfbaglaaaPLbtsLaterx5
import Derived.Test.YteomcpdfbaglaaaPLbtsLaterx6
namespace Go.Proofs.Yteomcpdfbaglaaa.PLbtsLater
open Go.RowKit Go.Proofs.YteomcpdfbaglaaaR Go.Proofs.YteomcpdfbaglaaaW.PrintWords Go.Proofs.YteomcpdfbaglaaaW.PrintLast Go.Proofs.YteomcpdfbaglaaaW.PrintMore
attribute [local go_sem] max2_int min2_int max_two min_two max_three min_three max_four min_four   -- for this text's walks alone
set_option linter.unusedVariables false
set_option linter.unusedSimpArgs false

end Go.Proofs.Yteomcpdfbaglaaa.PLbtsLater
