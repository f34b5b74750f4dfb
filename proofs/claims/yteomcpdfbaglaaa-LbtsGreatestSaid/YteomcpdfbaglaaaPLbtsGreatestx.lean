-- Written by gp.py (this project's driver over the kit's print) out of the translation and wip/given; Lean checks it.
import Derived.Test.YteomcpdfbaglaaaPLbtsGreatestx0
import Derived.Test.YteomcpdfbaglaaaPLbtsGreatestx1
import Derived.Test.YteomcpdfbaglaaaPLbtsGreatestx2
import Derived.Test.YteomcpdfbaglaaaPLbtsGreatestx3
import Derived.Test.YteomcpdfbaglaaaPLbtsGreatestx4
import Derived.Test.YteomcpdfbaglaaaPLbtsGreatestx5
import Derived.Test.YteomcpdfbaglaaaPLbtsGreatestx6
import Derived.Test.YteomcpdfbaglaaaPLbtsGreatestx7
namespace Go.Proofs.Yteomcpdfbaglaaa.PLbtsGreatest
open Go.RowKit Go.Proofs.YteomcpdfbaglaaaR Go.Proofs.YteomcpdfbaglaaaW.PrintWords Go.Proofs.YteomcpdfbaglaaaW.PrintLast Go.Proofs.YteomcpdfbaglaaaW.PrintMore
attribute [local go_sem] max2_int min2_int max_two min_two max_three min_three max_four min_four   -- for this text's walks alone
set_option linter.unusedVariables false
set_option linter.unusedSimpArgs false

end Go.Proofs.Yteomcpdfbaglaaa.PLbtsGreatest
