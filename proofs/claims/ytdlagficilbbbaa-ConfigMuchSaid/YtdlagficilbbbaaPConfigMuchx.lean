-- Written by gp.py (this project's driver over the kit's print) out of the translation and wip/given; Lean checks it.
import Derived.Test.YtdlagficilbbbaaPConfigMuchx0
import Derived.Test.YtdlagficilbbbaaPConfigMuchx1
import Derived.Test.YtdlagficilbbbaaPConfigMuchx2
import Derived.Test.YtdlagficilbbbaaPConfigMuchx3
import Derived.Test.YtdlagficilbbbaaPConfigMuchx4
import Derived.Test.YtdlagficilbbbaaPConfigMuchx5
import Derived.Test.YtdlagficilbbbaaPConfigMuchx6
import Derived.Test.YtdlagficilbbbaaPConfigMuchx7
import Derived.Test.YtdlagficilbbbaaPConfigMuchx8
import Derived.Test.YtdlagficilbbbaaPConfigMuchx9
import Derived.Test.YtdlagficilbbbaaPConfigMuchx10
import Derived.Test.YtdlagficilbbbaaPConfigMuchx11
import Derived.Test.YtdlagficilbbbaaPConfigMuchx12
namespace Go.Proofs.Ytdlagficilbbbaa.PConfigMuch
open Go.RowKit Go.Proofs.YtdlagficilbbbaaR Go.Proofs.YtdlagficilbbbaaW.PrintWords Go.Proofs.YtdlagficilbbbaaW.PrintLast Go.Proofs.YtdlagficilbbbaaW.PrintMore
attribute [local go_sem] max2_int min2_int max_two min_two max_three min_three max_four min_four   -- for this text's walks alone
set_option linter.unusedVariables false
set_option linter.unusedSimpArgs false

end Go.Proofs.Ytdlagficilbbbaa.PConfigMuch
