-- Written by gp.py (this project's driver over the kit's print) out of the translation and wip/given; Lean checks it.
import Derived.Test.YtccidadepjcjjaaPTableTurnedx0
import Derived.Test.YtccidadepjcjjaaPTableTurnedx1
import Derived.Test.YtccidadepjcjjaaPTableTurnedx2
import Derived.Test.YtccidadepjcjjaaPTableTurnedx3
import Derived.Test.YtccidadepjcjjaaPTableTurnedx4
import Derived.Test.YtccidadepjcjjaaPTableTurnedx5
import Derived.Test.YtccidadepjcjjaaPTableTurnedx6
namespace Go.Proofs.Ytccidadepjcjjaa.PTableTurned
open Go.RowKit Go.Proofs.YtccidadepjcjjaaR Go.Proofs.YtccidadepjcjjaaW.PrintWords Go.Proofs.YtccidadepjcjjaaW.PrintLast Go.Proofs.YtccidadepjcjjaaW.PrintMore
attribute [local go_sem] max2_int min2_int max_two min_two max_three min_three max_four min_four   -- for this text's walks alone
set_option linter.unusedVariables false
set_option linter.unusedSimpArgs false

end Go.Proofs.Ytccidadepjcjjaa.PTableTurned
