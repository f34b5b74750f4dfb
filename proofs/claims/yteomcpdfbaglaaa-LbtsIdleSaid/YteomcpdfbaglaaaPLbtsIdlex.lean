-- Written by gp.py (this project's driver over the kit's print) out of the translation and wip/given; Lean checks it.
import Derived.Test.YteomcpdfbaglaaaPLbtsIdlex0
import Derived.Test.YteomcpdfbaglaaaPLbtsIdlex1
import Derived.Test.YteomcpdfbaglaaaPLbtsIdlex2
import Derived.Test.YteomcpdfbaglaaaPLbtsIdlex3
import Derived.Test.YteomcpdfbaglaaaPLbtsIdlex4
namespace Go.Proofs.Yteomcpdfbaglaaa.PLbtsIdle
open Go.RowKit Go.Proofs.YteomcpdfbaglaaaR Go.Proofs.YteomcpdfbaglaaaW.PrintWords Go.Proofs.YteomcpdfbaglaaaW.PrintLast Go.Proofs.YteomcpdfbaglaaaW.PrintMore
attribute [local go_sem] max2_int min2_int max_two min_two max_three min_three max_four min_four   -- for this text's walks alone
set_option linter.unusedVariables false
set_option linter.unusedSimpArgs false

end Go.Proofs.Yteomcpdfbaglaaa.PLbtsIdle
