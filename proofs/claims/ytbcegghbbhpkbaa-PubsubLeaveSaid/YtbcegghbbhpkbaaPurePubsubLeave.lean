/- 'pacelinelaw06.PubsubLeave': whatever steps and federate: the law answers true. Conditions: none beyond the form's own reach. -/
import Derived.Test.YtbcegghbbhpkbaaPPubsubLeavex
import Derived.OpenShut
set_option linter.unusedVariables false
set_option linter.unusedSimpArgs false
namespace Go.Proofs.Ytbcegghbbhpkbaa.Pure
open Go.RowKit Go.Proofs.Ytbcegghbbhpkbaa.PPubsubLeave Go.Proofs.YtbcegghbbhpkbaaR Go.Proofs.YtbcegghbbhpkbaaW.PrintWords Go.Proofs.YtbcegghbbhpkbaaW.PrintLast


theorem PubsubLeave : pacelinelaw06_PubsubLeave.Pure := fun l0 a1 _ h1 => ⟨0, by
  unfold pacelinelaw06_PubsubLeave.f
  exact if_pos (bounds_u8 h1)⟩

end Go.Proofs.Ytbcegghbbhpkbaa.Pure
