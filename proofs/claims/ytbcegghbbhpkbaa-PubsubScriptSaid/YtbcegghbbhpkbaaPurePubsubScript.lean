/- 'pacelinelaw06.PubsubScript': whatever classes and steps: the law answers true. Conditions: none beyond the form's own reach. -/
import Derived.Test.YtbcegghbbhpkbaaPPubsubScriptx
set_option linter.unusedVariables false
set_option linter.unusedSimpArgs false
namespace Go.Proofs.Ytbcegghbbhpkbaa.Pure
open Go.RowKit Go.Proofs.Ytbcegghbbhpkbaa.PPubsubScript Go.Proofs.YtbcegghbbhpkbaaR Go.Proofs.YtbcegghbbhpkbaaW.PrintWords Go.Proofs.YtbcegghbbhpkbaaW.PrintLast


theorem PubsubScript : pacelinelaw06_PubsubScript.Pure := fun _ _ _ _ => ⟨0, rfl⟩

end Go.Proofs.Ytbcegghbbhpkbaa.Pure
