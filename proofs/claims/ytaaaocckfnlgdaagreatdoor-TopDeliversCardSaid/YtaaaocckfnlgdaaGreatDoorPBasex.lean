-- Written by gp.py (this project's driver over the kit's print) out of the translation and wip/given; Lean checks it.
import Derived.Test.YtaaaocckfnlgdaaGreatDoorPBasex0
import Derived.Test.YtaaaocckfnlgdaaGreatDoorPBasex1
import Derived.Test.YtaaaocckfnlgdaaGreatDoorPBasex2
import Derived.Test.YtaaaocckfnlgdaaGreatDoorPBasex3
namespace Go.Proofs.YtaaaocckfnlgdaaGreatDoor.PBase
open Go.RowKit Go.Proofs.YtaaaocckfnlgdaaGreatDoorR Go.Proofs.YtaaaocckfnlgdaaGreatDoorW.PrintWords Go.Proofs.YtaaaocckfnlgdaaGreatDoorW.PrintLast Go.Proofs.YtaaaocckfnlgdaaGreatDoorW.PrintMore
attribute [local go_sem] max2_int min2_int max_two min_two max_three min_three max_four min_four   -- for this text's walks alone
set_option linter.unusedVariables false
set_option linter.unusedSimpArgs false

end Go.Proofs.YtaaaocckfnlgdaaGreatDoor.PBase
