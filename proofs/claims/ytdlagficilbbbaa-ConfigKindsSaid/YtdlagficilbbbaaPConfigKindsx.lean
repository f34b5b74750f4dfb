-- Written by gp.py (this project's driver over the kit's print) out of the translation and wip/given; Lean checks it.
import Derived.Test.YtdlagficilbbbaaPConfigKindsx0
import Derived.Test.YtdlagficilbbbaaPConfigKindsx1
import Derived.Test.YtdlagficilbbbaaPConfigKindsx2
import Derived.Test.YtdlagficilbbbaaPConfigKindsx3
import Derived.Test.YtdlagficilbbbaaPConfigKindsx4
import Derived.Test.YtdlagficilbbbaaPConfigKindsx5
import Derived.Test.YtdlagficilbbbaaPConfigKindsx6
import Derived.Test.YtdlagficilbbbaaPConfigKindsx7
import Derived.Test.YtdlagficilbbbaaPConfigKindsx8
import Derived.Test.YtdlagficilbbbaaPConfigKindsx9
import Derived.Test.YtdlagficilbbbaaPConfigKindsx10
import Derived.Test.YtdlagficilbbbaaPConfigKindsx11
import Derived.Test.YtdlagficilbbbaaPConfigKindsx12
namespace Go.Proofs.Ytdlagficilbbbaa.PConfigKinds
open Go.RowKit Go.Proofs.YtdlagficilbbbaaR Go.Proofs.YtdlagficilbbbaaW.PrintWords Go.Proofs.YtdlagficilbbbaaW.PrintLast Go.Proofs.YtdlagficilbbbaaW.PrintMore
attribute [local go_sem] max2_int min2_int max_two min_two max_three min_three max_four min_four   -- for this text's walks alone
set_option linter.unusedVariables false
set_option linter.unusedSimpArgs false

end Go.Proofs.Ytdlagficilbbbaa.PConfigKinds
