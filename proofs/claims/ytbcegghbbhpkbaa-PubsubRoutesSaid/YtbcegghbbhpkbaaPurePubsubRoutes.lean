/- 'pacelinelaw06.PubsubRoutes': whatever steps, federate and class: the law answers true. Conditions: none beyond the form's own reach. -/
import Derived.Test.YtbcegghbbhpkbaaPPubsubRoutesx
import Derived.OpenShut
set_option linter.unusedVariables false
set_option linter.unusedSimpArgs false
namespace Go.Proofs.Ytbcegghbbhpkbaa.Pure
open Go.RowKit Go.Proofs.Ytbcegghbbhpkbaa.PPubsubRoutes Go.Proofs.YtbcegghbbhpkbaaR Go.Proofs.YtbcegghbbhpkbaaW.PrintWords Go.Proofs.YtbcegghbbhpkbaaW.PrintLast


theorem PubsubRoutes : pacelinelaw06_PubsubRoutes.Pure := fun l0 a1 a2 _ h1 h2 => ⟨0, by
  unfold pacelinelaw06_PubsubRoutes.f
  exact if_pos ⟨bounds_u8 h1, bounds_u8 h2⟩⟩

end Go.Proofs.Ytbcegghbbhpkbaa.Pure
