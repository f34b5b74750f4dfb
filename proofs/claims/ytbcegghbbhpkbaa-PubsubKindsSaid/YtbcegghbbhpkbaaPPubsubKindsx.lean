-- Written by gp.py (this project's driver over the kit's print) out of the translation and wip/given; Lean checks it.
import Derived.Test.YtbcegghbbhpkbaaPPubsubKindsx0
import Derived.Test.YtbcegghbbhpkbaaPPubsubKindsx1
namespace Go.Proofs.Ytbcegghbbhpkbaa.PPubsubKinds
open Go.RowKit Go.Proofs.YtbcegghbbhpkbaaR Go.Proofs.YtbcegghbbhpkbaaW.PrintWords Go.Proofs.YtbcegghbbhpkbaaW.PrintLast Go.Proofs.YtbcegghbbhpkbaaW.PrintMore
attribute [local go_sem] max2_int min2_int max_two min_two max_three min_three max_four min_four   -- for this text's walks alone
set_option linter.unusedVariables false
set_option linter.unusedSimpArgs false

end Go.Proofs.Ytbcegghbbhpkbaa.PPubsubKinds
