/-
  No cell of these rows narrows 'for every input' (looked for: loops, veiled, ifaces, maps, wideKeys, modest, calm, conditions, laid).
  DERIVED. THE GIVEN ROWS OF THIS SEAT. 5 by the template 'for every input the law returns true; each argument reads behind the call as it read before'; 0 by the template 'total and deterministic' (their statements: YtbcegghbbhpkbaaTotals.lean).
  GIVEN WITH THE SEED: the statements are not yours to turn. If you find one false, say at which input.
  Laid BY PROGRAM, IN A SANDBOX (cutbox-rows.mjs): the forced cells as the released guide's own fill.sh prints them over the translation 2eab523bb59c27b2… (all of the seat's roots in one cut). By AI agents, Wed Nov 11 2026. No macro, syntax, notation, axiom, sorry.
-/
import Derived.Test.YtbcegghbbhpkbaaChecked
import GoSem.Claim
import GoSem.ClaimJoined
import GoSem.ClaimMapViews
import Derived.JoinedTies
import Derived.KernelRfl
namespace Go.Proofs.Ytbcegghbbhpkbaa
/- THE CELL 'sum', in the pinned program and in every row, IS THE sha256 OF THE DUMP (.gsa) THAT YtbcegghbbhpkbaaProg.lean LOADS. Nothing in Lean hashes anything: it is a label: what it is worth is what the hold of that sum in a sandbox is worth. -/
noncomputable def Try.pinned : Pinned := { name := "ytbcegghbbhpkbaa", sum := "2eab523bb59c27b28a6681f2d99033516ab3f0e603a4df357736b76c67900cbc", checked := Try.checked }
namespace Rows
def none {H : Type} : Left H := { results := [], args := [] }

/-- 'pacelinelaw06.PubsubKinds': WHATEVER THE INPUT: true; the input reads as it did. -/
def pubsubKindsSpec : ChangeSpec := { name := "pubsubKinds", fn := fun _ => fun
  | [d1, d2, d3] => { results := [.lit (.bool true)], args := [d1, d2, d3] }
  | _ => none }
def pubsubKindsRow : OpenClaim := { program := "ytbcegghbbhpkbaa", sum := "2eab523bb59c27b28a6681f2d99033516ab3f0e603a4df357736b76c67900cbc", func := "paceline/pacelinelaw06.PubsubKinds", spec := "pubsubKinds", unfollowed := true, recurses := true, apart := false }
def PubsubKindsSaid : Prop := pubsubKindsRow.holds Try.pinned (OpenSpec.ofChange pubsubKindsSpec)

/-- ITS FALSE NEIGHBOUR: 'it returns false'. Refute it at one input. -/
def pubsubKindsWrong : ChangeSpec := { name := "pubsubKinds", fn := fun _ => fun
  | [d1, d2, d3] => { results := [.lit (.bool false)], args := [d1, d2, d3] }
  | _ => none }
def PubsubKindsWrongFalsely : Prop := pubsubKindsRow.holds Try.pinned (OpenSpec.ofChange pubsubKindsWrong)

/-- 'pacelinelaw06.PubsubApart': WHATEVER THE INPUT: true; the input reads as it did. -/
def pubsubApartSpec : ChangeSpec := { name := "pubsubApart", fn := fun _ => fun
  | [d1, d2] => { results := [.lit (.bool true)], args := [d1, d2] }
  | _ => none }
def pubsubApartRow : OpenClaim := { program := "ytbcegghbbhpkbaa", sum := "2eab523bb59c27b28a6681f2d99033516ab3f0e603a4df357736b76c67900cbc", func := "paceline/pacelinelaw06.PubsubApart", spec := "pubsubApart", unfollowed := true, recurses := true, apart := false }
def PubsubApartSaid : Prop := pubsubApartRow.holds Try.pinned (OpenSpec.ofChange pubsubApartSpec)

/-- ITS FALSE NEIGHBOUR: 'it returns false'. Refute it at one input. -/
def pubsubApartWrong : ChangeSpec := { name := "pubsubApart", fn := fun _ => fun
  | [d1, d2] => { results := [.lit (.bool false)], args := [d1, d2] }
  | _ => none }
def PubsubApartWrongFalsely : Prop := pubsubApartRow.holds Try.pinned (OpenSpec.ofChange pubsubApartWrong)

/-- 'pacelinelaw06.PubsubScript': WHATEVER THE INPUT: true; the input reads as it did. -/
def pubsubScriptSpec : ChangeSpec := { name := "pubsubScript", fn := fun _ => fun
  | [d1, d2] => { results := [.lit (.bool true)], args := [d1, d2] }
  | _ => none }
def pubsubScriptRow : OpenClaim := { program := "ytbcegghbbhpkbaa", sum := "2eab523bb59c27b28a6681f2d99033516ab3f0e603a4df357736b76c67900cbc", func := "paceline/pacelinelaw06.PubsubScript", spec := "pubsubScript", unfollowed := true, recurses := true, apart := false }
def PubsubScriptSaid : Prop := pubsubScriptRow.holds Try.pinned (OpenSpec.ofChange pubsubScriptSpec)

/-- ITS FALSE NEIGHBOUR: 'it returns false'. Refute it at one input. -/
def pubsubScriptWrong : ChangeSpec := { name := "pubsubScript", fn := fun _ => fun
  | [d1, d2] => { results := [.lit (.bool false)], args := [d1, d2] }
  | _ => none }
def PubsubScriptWrongFalsely : Prop := pubsubScriptRow.holds Try.pinned (OpenSpec.ofChange pubsubScriptWrong)

/-- 'pacelinelaw06.PubsubLeave': WHATEVER THE INPUT: true; the input reads as it did. -/
def pubsubLeaveSpec : ChangeSpec := { name := "pubsubLeave", fn := fun _ => fun
  | [d1, d2] => { results := [.lit (.bool true)], args := [d1, d2] }
  | _ => none }
def pubsubLeaveRow : OpenClaim := { program := "ytbcegghbbhpkbaa", sum := "2eab523bb59c27b28a6681f2d99033516ab3f0e603a4df357736b76c67900cbc", func := "paceline/pacelinelaw06.PubsubLeave", spec := "pubsubLeave", unfollowed := true, recurses := true, apart := false }
def PubsubLeaveSaid : Prop := pubsubLeaveRow.holds Try.pinned (OpenSpec.ofChange pubsubLeaveSpec)

/-- ITS FALSE NEIGHBOUR: 'it returns false'. Refute it at one input. -/
def pubsubLeaveWrong : ChangeSpec := { name := "pubsubLeave", fn := fun _ => fun
  | [d1, d2] => { results := [.lit (.bool false)], args := [d1, d2] }
  | _ => none }
def PubsubLeaveWrongFalsely : Prop := pubsubLeaveRow.holds Try.pinned (OpenSpec.ofChange pubsubLeaveWrong)

/-- 'pacelinelaw06.PubsubRoutes': WHATEVER THE INPUT: true; the input reads as it did. -/
def pubsubRoutesSpec : ChangeSpec := { name := "pubsubRoutes", fn := fun _ => fun
  | [d1, d2, d3] => { results := [.lit (.bool true)], args := [d1, d2, d3] }
  | _ => none }
def pubsubRoutesRow : OpenClaim := { program := "ytbcegghbbhpkbaa", sum := "2eab523bb59c27b28a6681f2d99033516ab3f0e603a4df357736b76c67900cbc", func := "paceline/pacelinelaw06.PubsubRoutes", spec := "pubsubRoutes", unfollowed := true, recurses := true, apart := false }
def PubsubRoutesSaid : Prop := pubsubRoutesRow.holds Try.pinned (OpenSpec.ofChange pubsubRoutesSpec)

/-- ITS FALSE NEIGHBOUR: 'it returns false'. Refute it at one input. -/
def pubsubRoutesWrong : ChangeSpec := { name := "pubsubRoutes", fn := fun _ => fun
  | [d1, d2, d3] => { results := [.lit (.bool false)], args := [d1, d2, d3] }
  | _ => none }
def PubsubRoutesWrongFalsely : Prop := pubsubRoutesRow.holds Try.pinned (OpenSpec.ofChange pubsubRoutesWrong)

/- THE SECOND FORM. 'bulk': how many values and letters a reading holds, each counted each time it is reached (what is shared counts as often as it is met; a slice's spare places count too). A statement '..UptoSaid' is the law's where the arguments, and the package variables that the reading takes, are together of bulk at most 1048576: NARROWER than '..Said'. Prove '..Said' where nothing that the law and all that it calls make is longer than what came in: it says more and counts as full. Else prove '..UptoSaid'. A law counts once. -/
mutual
def uptoBulk {H : Type} : DataW H → Nat
  | .lit (.string bytes) => bytes.length + 1
  | .lit _ => 1
  | .nil => 1
  | .ptr d => uptoBulk d + 1
  | .slice elems spare => uptoBulkAll elems + uptoBulkAll spare + 1
  | .agg parts => uptoBulkAll parts + 1
  | .iface _ d => uptoBulk d + 1
  | .map entries => uptoBulkEntries entries + 1
  | .held _ => 1
def uptoBulkAll {H : Type} : List (DataW H) → Nat
  | [] => 0
  | d :: r => uptoBulk d + uptoBulkAll r
def uptoBulkEntries {H : Type} : List (Lit × DataW H) → Nat
  | [] => 0
  | x :: r => uptoBulkEntry x + uptoBulkEntries r
def uptoBulkEntry {H : Type} : Lit × DataW H → Nat
  | (.string bytes, d) => bytes.length + uptoBulk d + 1
  | (_, d) => uptoBulk d + 1
 end
def uptoSmall : (H : Type) → List (DataW H) → Bool := fun _ ds => decide (uptoBulkAll ds ≤ 1048576)
def OpenSpec.upto (s : _root_.Go.ChangeSpec) : _root_.Go.OpenSpec := { _root_.Go.OpenSpec.ofChange s with cond := some uptoSmall }

/-- 'pacelinelaw06.PubsubKinds', WHERE WHAT IT READS IS OF BULK AT MOST 1048576: true; the input reads as it did. -/
def pubsubKindsUptoRow : OpenClaim := { program := "ytbcegghbbhpkbaa", sum := "2eab523bb59c27b28a6681f2d99033516ab3f0e603a4df357736b76c67900cbc", func := "paceline/pacelinelaw06.PubsubKinds", spec := "pubsubKinds", unfollowed := true, recurses := true, apart := false, narrowed := true }
def PubsubKindsUptoSaid : Prop := pubsubKindsUptoRow.holds Try.pinned (OpenSpec.upto pubsubKindsSpec)

/-- 'pacelinelaw06.PubsubApart', WHERE WHAT IT READS IS OF BULK AT MOST 1048576: true; the input reads as it did. -/
def pubsubApartUptoRow : OpenClaim := { program := "ytbcegghbbhpkbaa", sum := "2eab523bb59c27b28a6681f2d99033516ab3f0e603a4df357736b76c67900cbc", func := "paceline/pacelinelaw06.PubsubApart", spec := "pubsubApart", unfollowed := true, recurses := true, apart := false, narrowed := true }
def PubsubApartUptoSaid : Prop := pubsubApartUptoRow.holds Try.pinned (OpenSpec.upto pubsubApartSpec)

/-- 'pacelinelaw06.PubsubScript', WHERE WHAT IT READS IS OF BULK AT MOST 1048576: true; the input reads as it did. -/
def pubsubScriptUptoRow : OpenClaim := { program := "ytbcegghbbhpkbaa", sum := "2eab523bb59c27b28a6681f2d99033516ab3f0e603a4df357736b76c67900cbc", func := "paceline/pacelinelaw06.PubsubScript", spec := "pubsubScript", unfollowed := true, recurses := true, apart := false, narrowed := true }
def PubsubScriptUptoSaid : Prop := pubsubScriptUptoRow.holds Try.pinned (OpenSpec.upto pubsubScriptSpec)

/-- 'pacelinelaw06.PubsubLeave', WHERE WHAT IT READS IS OF BULK AT MOST 1048576: true; the input reads as it did. -/
def pubsubLeaveUptoRow : OpenClaim := { program := "ytbcegghbbhpkbaa", sum := "2eab523bb59c27b28a6681f2d99033516ab3f0e603a4df357736b76c67900cbc", func := "paceline/pacelinelaw06.PubsubLeave", spec := "pubsubLeave", unfollowed := true, recurses := true, apart := false, narrowed := true }
def PubsubLeaveUptoSaid : Prop := pubsubLeaveUptoRow.holds Try.pinned (OpenSpec.upto pubsubLeaveSpec)

/-- 'pacelinelaw06.PubsubRoutes', WHERE WHAT IT READS IS OF BULK AT MOST 1048576: true; the input reads as it did. -/
def pubsubRoutesUptoRow : OpenClaim := { program := "ytbcegghbbhpkbaa", sum := "2eab523bb59c27b28a6681f2d99033516ab3f0e603a4df357736b76c67900cbc", func := "paceline/pacelinelaw06.PubsubRoutes", spec := "pubsubRoutes", unfollowed := true, recurses := true, apart := false, narrowed := true }
def PubsubRoutesUptoSaid : Prop := pubsubRoutesUptoRow.holds Try.pinned (OpenSpec.upto pubsubRoutesSpec)

end Rows
end Go.Proofs.Ytbcegghbbhpkbaa
