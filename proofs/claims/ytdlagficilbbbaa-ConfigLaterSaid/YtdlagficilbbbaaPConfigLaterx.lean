-- Written by gp.py (this project's driver over the kit's print) out of the translation and wip/given; Lean checks it.
import Derived.Test.YtdlagficilbbbaaPConfigLaterx0
import Derived.Test.YtdlagficilbbbaaPConfigLaterx1
import Derived.Test.YtdlagficilbbbaaPConfigLaterx2
import Derived.Test.YtdlagficilbbbaaPConfigLaterx3
import Derived.Test.YtdlagficilbbbaaPConfigLaterx4
import Derived.Test.YtdlagficilbbbaaPConfigLaterx5
import Derived.Test.YtdlagficilbbbaaPConfigLaterx6
import Derived.Test.YtdlagficilbbbaaPConfigLaterx7
import Derived.Test.YtdlagficilbbbaaPConfigLaterx8
import Derived.Test.YtdlagficilbbbaaPConfigLaterx9
import Derived.Test.YtdlagficilbbbaaPConfigLaterx10
import Derived.Test.YtdlagficilbbbaaPConfigLaterx11
namespace Go.Proofs.Ytdlagficilbbbaa.PConfigLater
open Go.RowKit Go.Proofs.YtdlagficilbbbaaR Go.Proofs.YtdlagficilbbbaaW.PrintWords Go.Proofs.YtdlagficilbbbaaW.PrintLast Go.Proofs.YtdlagficilbbbaaW.PrintMore
attribute [local go_sem] max2_int min2_int max_two min_two max_three min_three max_four min_four   -- for this text's walks alone
set_option linter.unusedVariables false
set_option linter.unusedSimpArgs false

end Go.Proofs.Ytdlagficilbbbaa.PConfigLater
