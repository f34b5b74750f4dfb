/-
  No cell of these rows narrows 'for every input' (looked for: loops, veiled, ifaces, maps, wideKeys, modest, calm, conditions, laid).
  DERIVED. THE GIVEN ROWS OF THIS SEAT. 6 by the template 'for every input the law returns true; each argument reads behind the call as it read before'; 0 by the template 'total and deterministic' (their statements: YtccidadepjcjjaaTotals.lean).
  GIVEN WITH THE SEED: the statements are not yours to turn. If you find one false, say at which input.
  Laid BY PROGRAM, IN A SANDBOX (cutbox-rows.mjs): the forced cells as the released guide's own fill.sh prints them over the translation e4935d1668891755… (all of the seat's roots in one cut). By AI agents, Wed Nov 11 2026. No macro, syntax, notation, axiom, sorry.
-/
import Derived.Test.YtccidadepjcjjaaChecked
import GoSem.Claim
import GoSem.ClaimJoined
import GoSem.ClaimMapViews
import Derived.JoinedTies
import Derived.KernelRfl
namespace Go.Proofs.Ytccidadepjcjjaa
/- THE CELL 'sum', in the pinned program and in every row, IS THE sha256 OF THE DUMP (.gsa) THAT YtccidadepjcjjaaProg.lean LOADS. Nothing in Lean hashes anything: it is a label: what it is worth is what the hold of that sum in a sandbox is worth. -/
noncomputable def Try.pinned : Pinned := { name := "ytccidadepjcjjaa", sum := "e4935d16688917552e95f758a5345c1f26367f488386be9af34d5fba49bbdbc7", checked := Try.checked }
namespace Rows
def none {H : Type} : Left H := { results := [], args := [] }

/-- 'pacelinelaw07.TableSends': WHATEVER THE INPUT: true; the input reads as it did. -/
def tableSendsSpec : ChangeSpec := { name := "tableSends", fn := fun _ => fun
  | [d1, d2, d3, d4, d5] => { results := [.lit (.bool true)], args := [d1, d2, d3, d4, d5] }
  | _ => none }
def tableSendsRow : OpenClaim := { program := "ytccidadepjcjjaa", sum := "e4935d16688917552e95f758a5345c1f26367f488386be9af34d5fba49bbdbc7", func := "paceline/pacelinelaw07.TableSends", spec := "tableSends", plainKeys := false, apart := false }
def TableSendsSaid : Prop := tableSendsRow.holds Try.pinned (OpenSpec.ofChange tableSendsSpec)

/-- ITS FALSE NEIGHBOUR: 'it returns false'. Refute it at one input. -/
def tableSendsWrong : ChangeSpec := { name := "tableSends", fn := fun _ => fun
  | [d1, d2, d3, d4, d5] => { results := [.lit (.bool false)], args := [d1, d2, d3, d4, d5] }
  | _ => none }
def TableSendsWrongFalsely : Prop := tableSendsRow.holds Try.pinned (OpenSpec.ofChange tableSendsWrong)

/-- 'pacelinelaw07.TableBodies': WHATEVER THE INPUT: true; the input reads as it did. -/
def tableBodiesSpec : ChangeSpec := { name := "tableBodies", fn := fun _ => fun
  | [d1, d2, d3] => { results := [.lit (.bool true)], args := [d1, d2, d3] }
  | _ => none }
def tableBodiesRow : OpenClaim := { program := "ytccidadepjcjjaa", sum := "e4935d16688917552e95f758a5345c1f26367f488386be9af34d5fba49bbdbc7", func := "paceline/pacelinelaw07.TableBodies", spec := "tableBodies", plainKeys := false, apart := false }
def TableBodiesSaid : Prop := tableBodiesRow.holds Try.pinned (OpenSpec.ofChange tableBodiesSpec)

/-- ITS FALSE NEIGHBOUR: 'it returns false'. Refute it at one input. -/
def tableBodiesWrong : ChangeSpec := { name := "tableBodies", fn := fun _ => fun
  | [d1, d2, d3] => { results := [.lit (.bool false)], args := [d1, d2, d3] }
  | _ => none }
def TableBodiesWrongFalsely : Prop := tableBodiesRow.holds Try.pinned (OpenSpec.ofChange tableBodiesWrong)

/-- 'pacelinelaw07.TableWalks': WHATEVER THE INPUT: true; the input reads as it did. -/
def tableWalksSpec : ChangeSpec := { name := "tableWalks", fn := fun _ => fun
  | [d1, d2, d3, d4] => { results := [.lit (.bool true)], args := [d1, d2, d3, d4] }
  | _ => none }
def tableWalksRow : OpenClaim := { program := "ytccidadepjcjjaa", sum := "e4935d16688917552e95f758a5345c1f26367f488386be9af34d5fba49bbdbc7", func := "paceline/pacelinelaw07.TableWalks", spec := "tableWalks", unfollowed := true, recurses := true, plainKeys := false, apart := false }
def TableWalksSaid : Prop := tableWalksRow.holds Try.pinned (OpenSpec.ofChange tableWalksSpec)

/-- ITS FALSE NEIGHBOUR: 'it returns false'. Refute it at one input. -/
def tableWalksWrong : ChangeSpec := { name := "tableWalks", fn := fun _ => fun
  | [d1, d2, d3, d4] => { results := [.lit (.bool false)], args := [d1, d2, d3, d4] }
  | _ => none }
def TableWalksWrongFalsely : Prop := tableWalksRow.holds Try.pinned (OpenSpec.ofChange tableWalksWrong)

/-- 'pacelinelaw07.TableChecks': WHATEVER THE INPUT: true; the input reads as it did. -/
def tableChecksSpec : ChangeSpec := { name := "tableChecks", fn := fun _ => fun
  | [d1, d2, d3] => { results := [.lit (.bool true)], args := [d1, d2, d3] }
  | _ => none }
def tableChecksRow : OpenClaim := { program := "ytccidadepjcjjaa", sum := "e4935d16688917552e95f758a5345c1f26367f488386be9af34d5fba49bbdbc7", func := "paceline/pacelinelaw07.TableChecks", spec := "tableChecks", unfollowed := true, recurses := true, plainKeys := false, apart := false }
def TableChecksSaid : Prop := tableChecksRow.holds Try.pinned (OpenSpec.ofChange tableChecksSpec)

/-- ITS FALSE NEIGHBOUR: 'it returns false'. Refute it at one input. -/
def tableChecksWrong : ChangeSpec := { name := "tableChecks", fn := fun _ => fun
  | [d1, d2, d3] => { results := [.lit (.bool false)], args := [d1, d2, d3] }
  | _ => none }
def TableChecksWrongFalsely : Prop := tableChecksRow.holds Try.pinned (OpenSpec.ofChange tableChecksWrong)

/-- 'pacelinelaw07.TableStays': WHATEVER THE INPUT: true; the input reads as it did. -/
def tableStaysSpec : ChangeSpec := { name := "tableStays", fn := fun _ => fun
  | [d1, d2, d3] => { results := [.lit (.bool true)], args := [d1, d2, d3] }
  | _ => none }
def tableStaysRow : OpenClaim := { program := "ytccidadepjcjjaa", sum := "e4935d16688917552e95f758a5345c1f26367f488386be9af34d5fba49bbdbc7", func := "paceline/pacelinelaw07.TableStays", spec := "tableStays", unfollowed := true, recurses := true, plainKeys := false, apart := false }
def TableStaysSaid : Prop := tableStaysRow.holds Try.pinned (OpenSpec.ofChange tableStaysSpec)

/-- ITS FALSE NEIGHBOUR: 'it returns false'. Refute it at one input. -/
def tableStaysWrong : ChangeSpec := { name := "tableStays", fn := fun _ => fun
  | [d1, d2, d3] => { results := [.lit (.bool false)], args := [d1, d2, d3] }
  | _ => none }
def TableStaysWrongFalsely : Prop := tableStaysRow.holds Try.pinned (OpenSpec.ofChange tableStaysWrong)

/-- 'pacelinelaw07.TableTurned': WHATEVER THE INPUT: true; the input reads as it did. -/
def tableTurnedSpec : ChangeSpec := { name := "tableTurned", fn := fun _ => fun
  | [d1, d2, d3] => { results := [.lit (.bool true)], args := [d1, d2, d3] }
  | _ => none }
def tableTurnedRow : OpenClaim := { program := "ytccidadepjcjjaa", sum := "e4935d16688917552e95f758a5345c1f26367f488386be9af34d5fba49bbdbc7", func := "paceline/pacelinelaw07.TableTurned", spec := "tableTurned", unfollowed := true, recurses := true, plainKeys := false, apart := false }
def TableTurnedSaid : Prop := tableTurnedRow.holds Try.pinned (OpenSpec.ofChange tableTurnedSpec)

/-- ITS FALSE NEIGHBOUR: 'it returns false'. Refute it at one input. -/
def tableTurnedWrong : ChangeSpec := { name := "tableTurned", fn := fun _ => fun
  | [d1, d2, d3] => { results := [.lit (.bool false)], args := [d1, d2, d3] }
  | _ => none }
def TableTurnedWrongFalsely : Prop := tableTurnedRow.holds Try.pinned (OpenSpec.ofChange tableTurnedWrong)

/- THE SECOND FORM. 'bulk': how many values and letters a reading holds, each counted each time it is reached (what is shared counts as often as it is met; a slice's spare places count too). A statement '..UptoSaid' is the law's where the arguments, and the package variables that the reading takes, are together of bulk at most 1048576: NARROWER than '..Said'. Prove '..Said' where nothing that the law and all that it calls make is longer than what came in: it says more and counts as full. Else prove '..UptoSaid'. A law counts once. -/
mutual
def uptoBulk {H : Type} : DataW H → Nat
  | .lit (.string bytes) => bytes.length + 1
  | .lit _ => 1
  | .nil => 1
  | .ptr d => uptoBulk d + 1
  | .slice elems spare => uptoBulkAll elems + uptoBulkAll spare + 1
  | .agg parts => uptoBulkAll parts + 1
  | .iface _ d => uptoBulk d + 1
  | .map entries => uptoBulkEntries entries + 1
  | .held _ => 1
def uptoBulkAll {H : Type} : List (DataW H) → Nat
  | [] => 0
  | d :: r => uptoBulk d + uptoBulkAll r
def uptoBulkEntries {H : Type} : List (Lit × DataW H) → Nat
  | [] => 0
  | x :: r => uptoBulkEntry x + uptoBulkEntries r
def uptoBulkEntry {H : Type} : Lit × DataW H → Nat
  | (.string bytes, d) => bytes.length + uptoBulk d + 1
  | (_, d) => uptoBulk d + 1
 end
def uptoSmall : (H : Type) → List (DataW H) → Bool := fun _ ds => decide (uptoBulkAll ds ≤ 1048576)
def OpenSpec.upto (s : _root_.Go.ChangeSpec) : _root_.Go.OpenSpec := { _root_.Go.OpenSpec.ofChange s with cond := some uptoSmall }

/-- 'pacelinelaw07.TableSends', WHERE WHAT IT READS IS OF BULK AT MOST 1048576: true; the input reads as it did. -/
def tableSendsUptoRow : OpenClaim := { program := "ytccidadepjcjjaa", sum := "e4935d16688917552e95f758a5345c1f26367f488386be9af34d5fba49bbdbc7", func := "paceline/pacelinelaw07.TableSends", spec := "tableSends", plainKeys := false, apart := false, narrowed := true }
def TableSendsUptoSaid : Prop := tableSendsUptoRow.holds Try.pinned (OpenSpec.upto tableSendsSpec)

/-- 'pacelinelaw07.TableBodies', WHERE WHAT IT READS IS OF BULK AT MOST 1048576: true; the input reads as it did. -/
def tableBodiesUptoRow : OpenClaim := { program := "ytccidadepjcjjaa", sum := "e4935d16688917552e95f758a5345c1f26367f488386be9af34d5fba49bbdbc7", func := "paceline/pacelinelaw07.TableBodies", spec := "tableBodies", plainKeys := false, apart := false, narrowed := true }
def TableBodiesUptoSaid : Prop := tableBodiesUptoRow.holds Try.pinned (OpenSpec.upto tableBodiesSpec)

/-- 'pacelinelaw07.TableWalks', WHERE WHAT IT READS IS OF BULK AT MOST 1048576: true; the input reads as it did. -/
def tableWalksUptoRow : OpenClaim := { program := "ytccidadepjcjjaa", sum := "e4935d16688917552e95f758a5345c1f26367f488386be9af34d5fba49bbdbc7", func := "paceline/pacelinelaw07.TableWalks", spec := "tableWalks", unfollowed := true, recurses := true, plainKeys := false, apart := false, narrowed := true }
def TableWalksUptoSaid : Prop := tableWalksUptoRow.holds Try.pinned (OpenSpec.upto tableWalksSpec)

/-- 'pacelinelaw07.TableChecks', WHERE WHAT IT READS IS OF BULK AT MOST 1048576: true; the input reads as it did. -/
def tableChecksUptoRow : OpenClaim := { program := "ytccidadepjcjjaa", sum := "e4935d16688917552e95f758a5345c1f26367f488386be9af34d5fba49bbdbc7", func := "paceline/pacelinelaw07.TableChecks", spec := "tableChecks", unfollowed := true, recurses := true, plainKeys := false, apart := false, narrowed := true }
def TableChecksUptoSaid : Prop := tableChecksUptoRow.holds Try.pinned (OpenSpec.upto tableChecksSpec)

/-- 'pacelinelaw07.TableStays', WHERE WHAT IT READS IS OF BULK AT MOST 1048576: true; the input reads as it did. -/
def tableStaysUptoRow : OpenClaim := { program := "ytccidadepjcjjaa", sum := "e4935d16688917552e95f758a5345c1f26367f488386be9af34d5fba49bbdbc7", func := "paceline/pacelinelaw07.TableStays", spec := "tableStays", unfollowed := true, recurses := true, plainKeys := false, apart := false, narrowed := true }
def TableStaysUptoSaid : Prop := tableStaysUptoRow.holds Try.pinned (OpenSpec.upto tableStaysSpec)

/-- 'pacelinelaw07.TableTurned', WHERE WHAT IT READS IS OF BULK AT MOST 1048576: true; the input reads as it did. -/
def tableTurnedUptoRow : OpenClaim := { program := "ytccidadepjcjjaa", sum := "e4935d16688917552e95f758a5345c1f26367f488386be9af34d5fba49bbdbc7", func := "paceline/pacelinelaw07.TableTurned", spec := "tableTurned", unfollowed := true, recurses := true, plainKeys := false, apart := false, narrowed := true }
def TableTurnedUptoSaid : Prop := tableTurnedUptoRow.holds Try.pinned (OpenSpec.upto tableTurnedSpec)

end Rows
end Go.Proofs.Ytccidadepjcjjaa
