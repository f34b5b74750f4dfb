/- 'pacelinelaw06.PubsubKinds': whatever numbers make the classes, whatever federate and class: the law answers true. Conditions: none beyond the form's own reach. -/
import Derived.Test.YtbcegghbbhpkbaaPPubsubKindsx
import Derived.OpenShut
set_option linter.unusedVariables false
set_option linter.unusedSimpArgs false
namespace Go.Proofs.Ytbcegghbbhpkbaa.Pure
open Go.RowKit Go.Proofs.Ytbcegghbbhpkbaa.PPubsubKinds Go.Proofs.YtbcegghbbhpkbaaR Go.Proofs.YtbcegghbbhpkbaaW.PrintWords Go.Proofs.YtbcegghbbhpkbaaW.PrintLast


theorem PubsubKinds : pacelinelaw06_PubsubKinds.Pure := fun l0 a1 a2 h0 h1 h2 => ⟨0, by
  unfold pacelinelaw06_PubsubKinds.f
  exact if_pos ⟨List.all_eq_true.mpr (fun x hx => decide_eq_true (bounds_u8 (h0.2 x hx))), bounds_u8 h1, bounds_u8 h2⟩⟩

end Go.Proofs.Ytbcegghbbhpkbaa.Pure
