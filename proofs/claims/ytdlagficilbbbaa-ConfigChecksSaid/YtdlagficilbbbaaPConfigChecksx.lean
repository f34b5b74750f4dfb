-- Written by gp.py (this project's driver over the kit's print) out of the translation and wip/given; Lean checks it.
import Derived.Test.YtdlagficilbbbaaPConfigChecksx0
import Derived.Test.YtdlagficilbbbaaPConfigChecksx1
import Derived.Test.YtdlagficilbbbaaPConfigChecksx2
import Derived.Test.YtdlagficilbbbaaPConfigChecksx3
import Derived.Test.YtdlagficilbbbaaPConfigChecksx4
import Derived.Test.YtdlagficilbbbaaPConfigChecksx5
import Derived.Test.YtdlagficilbbbaaPConfigChecksx6
import Derived.Test.YtdlagficilbbbaaPConfigChecksx7
import Derived.Test.YtdlagficilbbbaaPConfigChecksx8
import Derived.Test.YtdlagficilbbbaaPConfigChecksx9
import Derived.Test.YtdlagficilbbbaaPConfigChecksx10
namespace Go.Proofs.Ytdlagficilbbbaa.PConfigChecks
open Go.RowKit Go.Proofs.YtdlagficilbbbaaR Go.Proofs.YtdlagficilbbbaaW.PrintWords Go.Proofs.YtdlagficilbbbaaW.PrintLast Go.Proofs.YtdlagficilbbbaaW.PrintMore
attribute [local go_sem] max2_int min2_int max_two min_two max_three min_three max_four min_four   -- for this text's walks alone
set_option linter.unusedVariables false
set_option linter.unusedSimpArgs false

end Go.Proofs.Ytdlagficilbbbaa.PConfigChecks
