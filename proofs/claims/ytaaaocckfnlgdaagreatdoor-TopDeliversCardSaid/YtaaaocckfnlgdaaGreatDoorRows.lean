/-
  NARROWER THAN 'FOR EVERY INPUT', by the rows' own cells (each row's printed sentence says how): TopSteps: laid · TopWaits: laid · TopDelivers: laid.
  DERIVED. THE GIVEN ROWS OF THIS SEAT. 3 by the template 'for every input the law returns true; each argument reads behind the call as it read before'; 0 by the template 'total and deterministic' (their statements: YtaaaocckfnlgdaaGreatDoorTotals.lean).
  GIVEN WITH THE SEED: the statements are not yours to turn. If you find one false, say at which input.
  Laid BY PROGRAM, IN A SANDBOX (cutbox-rows.mjs): the forced cells as the released guide's own fill.sh prints them over the translation 472da92af51a105a… (all of the seat's roots in one cut). By AI agents, Wed Nov 11 2026. No macro, syntax, notation, axiom, sorry.
-/
import Derived.Test.YtaaaocckfnlgdaaGreatDoorChecked
import GoSem.Claim
import GoSem.ClaimJoined
import GoSem.ClaimMapViews
import Derived.JoinedTies
import Derived.KernelRfl
namespace Go.Proofs.YtaaaocckfnlgdaaGreatDoor
/- THE CELL 'sum', in the pinned program and in every row, IS THE sha256 OF THE DUMP (.gsa) THAT YtaaaocckfnlgdaaGreatDoorProg.lean LOADS. Nothing in Lean hashes anything: it is a label: what it is worth is what the hold of that sum in a sandbox is worth. -/
noncomputable def Tryz.pinned : Pinned := { name := "ytaaaocckfnlgdaagreatdoor", sum := "472da92af51a105ab18b8ae9b5c75e4e0ae80e2fb42aaa67000bff44435dd8a0", checked := Tryz.checked }
namespace Rows
def none {H : Type} : Left H := { results := [], args := [] }

/- WHAT THE LISTED PACKAGE-LEVEL VARIABLES READ AS WHEN THE CALL BEGINS. Each datum BY PROGRAM (the guide's laid-datum.mjs) off the statement by which the dump's own 'gosem.cut.vars' lays the variable. In a bare row this is a premise. The card (YtaaaocckfnlgdaaGreatDoorCards.lean) ties it to the program's text. -/
def laid_errors_errorType {H : Type} : DataW H := .iface "internal/reflectlite.rtype" (.agg [.ptr (.lit (.string [101, 114, 114, 111, 114]))])

/-- 'pacelinetop.TopSteps': WHATEVER THE INPUT: true; the input reads as it did. -/
def topStepsSpec : ChangeSpec := { name := "topSteps", fn := fun _ => fun
  | [d1, d2, d3] => { results := [.lit (.bool true)], args := [d1, d2, d3] }
  | _ => none }
def topStepsRow : OpenClaim := { program := "ytaaaocckfnlgdaagreatdoor", sum := "472da92af51a105ab18b8ae9b5c75e4e0ae80e2fb42aaa67000bff44435dd8a0", func := "paceline/pacelinetop.TopSteps", spec := "topSteps", inPlace := ["internal/reflectlite.ValueOf", "(internal/reflectlite.Value).Type", "(internal/reflectlite.Value).IsNil", "internal/reflectlite.TypeOf", "(internal/reflectlite.Value).Elem", "(internal/reflectlite.Value).Set"], unfollowed := true, recurses := true, named := ["errors.errorType"], plainKeys := false, apart := false, laid := [("errors.errorType", laid_errors_errorType)] }
def TopStepsSaid : Prop := topStepsRow.holds Tryz.pinned (OpenSpec.ofChange topStepsSpec)

/-- ITS FALSE NEIGHBOUR: 'it returns false'. Refute it at one input. -/
def topStepsWrong : ChangeSpec := { name := "topSteps", fn := fun _ => fun
  | [d1, d2, d3] => { results := [.lit (.bool false)], args := [d1, d2, d3] }
  | _ => none }
def TopStepsWrongFalsely : Prop := topStepsRow.holds Tryz.pinned (OpenSpec.ofChange topStepsWrong)

/-- 'pacelinetop.TopWaits': WHATEVER THE INPUT: true; the input reads as it did. -/
def topWaitsSpec : ChangeSpec := { name := "topWaits", fn := fun _ => fun
  | [d1, d2, d3] => { results := [.lit (.bool true)], args := [d1, d2, d3] }
  | _ => none }
def topWaitsRow : OpenClaim := { program := "ytaaaocckfnlgdaagreatdoor", sum := "472da92af51a105ab18b8ae9b5c75e4e0ae80e2fb42aaa67000bff44435dd8a0", func := "paceline/pacelinetop.TopWaits", spec := "topWaits", inPlace := ["internal/reflectlite.ValueOf", "(internal/reflectlite.Value).Type", "(internal/reflectlite.Value).IsNil", "internal/reflectlite.TypeOf", "(internal/reflectlite.Value).Elem", "(internal/reflectlite.Value).Set"], unfollowed := true, recurses := true, named := ["errors.errorType"], plainKeys := false, apart := false, laid := [("errors.errorType", laid_errors_errorType)] }
def TopWaitsSaid : Prop := topWaitsRow.holds Tryz.pinned (OpenSpec.ofChange topWaitsSpec)

/-- ITS FALSE NEIGHBOUR: 'it returns false'. Refute it at one input. -/
def topWaitsWrong : ChangeSpec := { name := "topWaits", fn := fun _ => fun
  | [d1, d2, d3] => { results := [.lit (.bool false)], args := [d1, d2, d3] }
  | _ => none }
def TopWaitsWrongFalsely : Prop := topWaitsRow.holds Tryz.pinned (OpenSpec.ofChange topWaitsWrong)

/-- 'pacelinetop.TopDelivers': WHATEVER THE INPUT: true; the input reads as it did. -/
def topDeliversSpec : ChangeSpec := { name := "topDelivers", fn := fun _ => fun
  | [d1, d2, d3] => { results := [.lit (.bool true)], args := [d1, d2, d3] }
  | _ => none }
def topDeliversRow : OpenClaim := { program := "ytaaaocckfnlgdaagreatdoor", sum := "472da92af51a105ab18b8ae9b5c75e4e0ae80e2fb42aaa67000bff44435dd8a0", func := "paceline/pacelinetop.TopDelivers", spec := "topDelivers", inPlace := ["internal/reflectlite.ValueOf", "(internal/reflectlite.Value).Type", "(internal/reflectlite.Value).IsNil", "internal/reflectlite.TypeOf", "(internal/reflectlite.Value).Elem", "(internal/reflectlite.Value).Set"], unfollowed := true, recurses := true, named := ["errors.errorType"], plainKeys := false, apart := false, laid := [("errors.errorType", laid_errors_errorType)] }
def TopDeliversSaid : Prop := topDeliversRow.holds Tryz.pinned (OpenSpec.ofChange topDeliversSpec)

/-- ITS FALSE NEIGHBOUR: 'it returns false'. Refute it at one input. -/
def topDeliversWrong : ChangeSpec := { name := "topDelivers", fn := fun _ => fun
  | [d1, d2, d3] => { results := [.lit (.bool false)], args := [d1, d2, d3] }
  | _ => none }
def TopDeliversWrongFalsely : Prop := topDeliversRow.holds Tryz.pinned (OpenSpec.ofChange topDeliversWrong)

/- THE SECOND FORM. 'bulk': how many values and letters a reading holds, each counted each time it is reached (what is shared counts as often as it is met; a slice's spare places count too). A statement '..UptoSaid' is the law's where the arguments, and the package variables that the reading takes, are together of bulk at most 1048576: NARROWER than '..Said'. Prove '..Said' where nothing that the law and all that it calls make is longer than what came in: it says more and counts as full. Else prove '..UptoSaid'. A law counts once. -/
mutual
def uptoBulk {H : Type} : DataW H → Nat
  | .lit (.string bytes) => bytes.length + 1
  | .lit _ => 1
  | .nil => 1
  | .ptr d => uptoBulk d + 1
  | .slice elems spare => uptoBulkAll elems + uptoBulkAll spare + 1
  | .agg parts => uptoBulkAll parts + 1
  | .iface _ d => uptoBulk d + 1
  | .map entries => uptoBulkEntries entries + 1
  | .held _ => 1
def uptoBulkAll {H : Type} : List (DataW H) → Nat
  | [] => 0
  | d :: r => uptoBulk d + uptoBulkAll r
def uptoBulkEntries {H : Type} : List (Lit × DataW H) → Nat
  | [] => 0
  | x :: r => uptoBulkEntry x + uptoBulkEntries r
def uptoBulkEntry {H : Type} : Lit × DataW H → Nat
  | (.string bytes, d) => bytes.length + uptoBulk d + 1
  | (_, d) => uptoBulk d + 1
 end
def uptoSmall : (H : Type) → List (DataW H) → Bool := fun _ ds => decide (uptoBulkAll ds ≤ 1048576)
def OpenSpec.upto (s : _root_.Go.ChangeSpec) : _root_.Go.OpenSpec := { _root_.Go.OpenSpec.ofChange s with cond := some uptoSmall }

/-- 'pacelinetop.TopSteps', WHERE WHAT IT READS IS OF BULK AT MOST 1048576: true; the input reads as it did. -/
def topStepsUptoRow : OpenClaim := { program := "ytaaaocckfnlgdaagreatdoor", sum := "472da92af51a105ab18b8ae9b5c75e4e0ae80e2fb42aaa67000bff44435dd8a0", func := "paceline/pacelinetop.TopSteps", spec := "topSteps", inPlace := ["internal/reflectlite.ValueOf", "(internal/reflectlite.Value).Type", "(internal/reflectlite.Value).IsNil", "internal/reflectlite.TypeOf", "(internal/reflectlite.Value).Elem", "(internal/reflectlite.Value).Set"], unfollowed := true, recurses := true, named := ["errors.errorType"], plainKeys := false, apart := false, laid := [("errors.errorType", laid_errors_errorType)], narrowed := true }
def TopStepsUptoSaid : Prop := topStepsUptoRow.holds Tryz.pinned (OpenSpec.upto topStepsSpec)

/-- 'pacelinetop.TopWaits', WHERE WHAT IT READS IS OF BULK AT MOST 1048576: true; the input reads as it did. -/
def topWaitsUptoRow : OpenClaim := { program := "ytaaaocckfnlgdaagreatdoor", sum := "472da92af51a105ab18b8ae9b5c75e4e0ae80e2fb42aaa67000bff44435dd8a0", func := "paceline/pacelinetop.TopWaits", spec := "topWaits", inPlace := ["internal/reflectlite.ValueOf", "(internal/reflectlite.Value).Type", "(internal/reflectlite.Value).IsNil", "internal/reflectlite.TypeOf", "(internal/reflectlite.Value).Elem", "(internal/reflectlite.Value).Set"], unfollowed := true, recurses := true, named := ["errors.errorType"], plainKeys := false, apart := false, laid := [("errors.errorType", laid_errors_errorType)], narrowed := true }
def TopWaitsUptoSaid : Prop := topWaitsUptoRow.holds Tryz.pinned (OpenSpec.upto topWaitsSpec)

/-- 'pacelinetop.TopDelivers', WHERE WHAT IT READS IS OF BULK AT MOST 1048576: true; the input reads as it did. -/
def topDeliversUptoRow : OpenClaim := { program := "ytaaaocckfnlgdaagreatdoor", sum := "472da92af51a105ab18b8ae9b5c75e4e0ae80e2fb42aaa67000bff44435dd8a0", func := "paceline/pacelinetop.TopDelivers", spec := "topDelivers", inPlace := ["internal/reflectlite.ValueOf", "(internal/reflectlite.Value).Type", "(internal/reflectlite.Value).IsNil", "internal/reflectlite.TypeOf", "(internal/reflectlite.Value).Elem", "(internal/reflectlite.Value).Set"], unfollowed := true, recurses := true, named := ["errors.errorType"], plainKeys := false, apart := false, laid := [("errors.errorType", laid_errors_errorType)], narrowed := true }
def TopDeliversUptoSaid : Prop := topDeliversUptoRow.holds Tryz.pinned (OpenSpec.upto topDeliversSpec)

end Rows
end Go.Proofs.YtaaaocckfnlgdaaGreatDoor
