-- Written by gp.py (this project's driver over the kit's print) out of the translation and wip/given; Lean checks it.
import Derived.Test.YtdlagficilbbbaaPConfigKeysx0
import Derived.Test.YtdlagficilbbbaaPConfigKeysx1
import Derived.Test.YtdlagficilbbbaaPConfigKeysx2
import Derived.Test.YtdlagficilbbbaaPConfigKeysx3
import Derived.Test.YtdlagficilbbbaaPConfigKeysx4
import Derived.Test.YtdlagficilbbbaaPConfigKeysx5
import Derived.Test.YtdlagficilbbbaaPConfigKeysx6
import Derived.Test.YtdlagficilbbbaaPConfigKeysx7
import Derived.Test.YtdlagficilbbbaaPConfigKeysx8
import Derived.Test.YtdlagficilbbbaaPConfigKeysx9
import Derived.Test.YtdlagficilbbbaaPConfigKeysx10
import Derived.Test.YtdlagficilbbbaaPConfigKeysx11
import Derived.Test.YtdlagficilbbbaaPConfigKeysx12
import Derived.Test.YtdlagficilbbbaaPConfigKeysx13
import Derived.Test.YtdlagficilbbbaaPConfigKeysx14
import Derived.Test.YtdlagficilbbbaaPConfigKeysx15
namespace Go.Proofs.Ytdlagficilbbbaa.PConfigKeys
open Go.RowKit Go.Proofs.YtdlagficilbbbaaR Go.Proofs.YtdlagficilbbbaaW.PrintWords Go.Proofs.YtdlagficilbbbaaW.PrintLast Go.Proofs.YtdlagficilbbbaaW.PrintMore
attribute [local go_sem] max2_int min2_int max_two min_two max_three min_three max_four min_four   -- for this text's walks alone
set_option linter.unusedVariables false
set_option linter.unusedSimpArgs false

end Go.Proofs.Ytdlagficilbbbaa.PConfigKeys
