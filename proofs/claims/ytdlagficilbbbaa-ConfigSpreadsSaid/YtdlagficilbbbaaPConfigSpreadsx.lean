-- Written by gp.py (this project's driver over the kit's print) out of the translation and wip/given; Lean checks it.
import Derived.Test.YtdlagficilbbbaaPConfigSpreadsx0
import Derived.Test.YtdlagficilbbbaaPConfigSpreadsx1
import Derived.Test.YtdlagficilbbbaaPConfigSpreadsx2
import Derived.Test.YtdlagficilbbbaaPConfigSpreadsx3
import Derived.Test.YtdlagficilbbbaaPConfigSpreadsx4
import Derived.Test.YtdlagficilbbbaaPConfigSpreadsx5
import Derived.Test.YtdlagficilbbbaaPConfigSpreadsx6
import Derived.Test.YtdlagficilbbbaaPConfigSpreadsx7
import Derived.Test.YtdlagficilbbbaaPConfigSpreadsx8
import Derived.Test.YtdlagficilbbbaaPConfigSpreadsx9
import Derived.Test.YtdlagficilbbbaaPConfigSpreadsx10
import Derived.Test.YtdlagficilbbbaaPConfigSpreadsx11
import Derived.Test.YtdlagficilbbbaaPConfigSpreadsx12
import Derived.Test.YtdlagficilbbbaaPConfigSpreadsx13
import Derived.Test.YtdlagficilbbbaaPConfigSpreadsx14
namespace Go.Proofs.Ytdlagficilbbbaa.PConfigSpreads
open Go.RowKit Go.Proofs.YtdlagficilbbbaaR Go.Proofs.YtdlagficilbbbaaW.PrintWords Go.Proofs.YtdlagficilbbbaaW.PrintLast Go.Proofs.YtdlagficilbbbaaW.PrintMore
attribute [local go_sem] max2_int min2_int max_two min_two max_three min_three max_four min_four   -- for this text's walks alone
set_option linter.unusedVariables false
set_option linter.unusedSimpArgs false

end Go.Proofs.Ytdlagficilbbbaa.PConfigSpreads
