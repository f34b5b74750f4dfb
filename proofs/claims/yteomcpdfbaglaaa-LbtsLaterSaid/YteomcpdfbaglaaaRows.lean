/-
  No cell of these rows narrows 'for every input' (looked for: loops, veiled, ifaces, maps, wideKeys, modest, calm, conditions, laid).
  DERIVED. THE GIVEN ROWS OF THIS SEAT. 6 by the template 'for every input the law returns true; each argument reads behind the call as it read before'; 0 by the template 'total and deterministic' (their statements: YteomcpdfbaglaaaTotals.lean).
  GIVEN WITH THE SEED: the statements are not yours to turn. If you find one false, say at which input.
  Laid BY PROGRAM, IN A SANDBOX (cutbox-rows.mjs): the forced cells as the released guide's own fill.sh prints them over the translation 75a897aa1c4392ad… (all of the seat's roots in one cut). By AI agents, Wed Nov 11 2026. No macro, syntax, notation, axiom, sorry.
-/
import Derived.Test.YteomcpdfbaglaaaChecked
import GoSem.Claim
import GoSem.ClaimJoined
import GoSem.ClaimMapViews
import Derived.JoinedTies
import Derived.KernelRfl
namespace Go.Proofs.Yteomcpdfbaglaaa
/- THE CELL 'sum', in the pinned program and in every row, IS THE sha256 OF THE DUMP (.gsa) THAT YteomcpdfbaglaaaProg.lean LOADS. Nothing in Lean hashes anything: it is a label: what it is worth is what the hold of that sum in a sandbox is worth. -/
noncomputable def Try.pinned : Pinned := { name := "yteomcpdfbaglaaa", sum := "75a897aa1c4392ade092efa56e5c8ab5ed0655280b45d69fb6bd6f536c71b4ee", checked := Try.checked }
namespace Rows
def none {H : Type} : Left H := { results := [], args := [] }

/-- 'pacelinelaw18.LbtsGreatest': WHATEVER THE INPUT: true; the input reads as it did. -/
def lbtsGreatestSpec : ChangeSpec := { name := "lbtsGreatest", fn := fun _ => fun
  | [d1, d2] => { results := [.lit (.bool true)], args := [d1, d2] }
  | _ => none }
def lbtsGreatestRow : OpenClaim := { program := "yteomcpdfbaglaaa", sum := "75a897aa1c4392ade092efa56e5c8ab5ed0655280b45d69fb6bd6f536c71b4ee", func := "paceline/pacelinelaw18.LbtsGreatest", spec := "lbtsGreatest", unfollowed := true, recurses := true, apart := false }
def LbtsGreatestSaid : Prop := lbtsGreatestRow.holds Try.pinned (OpenSpec.ofChange lbtsGreatestSpec)

/-- ITS FALSE NEIGHBOUR: 'it returns false'. Refute it at one input. -/
def lbtsGreatestWrong : ChangeSpec := { name := "lbtsGreatest", fn := fun _ => fun
  | [d1, d2] => { results := [.lit (.bool false)], args := [d1, d2] }
  | _ => none }
def LbtsGreatestWrongFalsely : Prop := lbtsGreatestRow.holds Try.pinned (OpenSpec.ofChange lbtsGreatestWrong)

/-- 'pacelinelaw18.LbtsTells': WHATEVER THE INPUT: true; the input reads as it did. -/
def lbtsTellsSpec : ChangeSpec := { name := "lbtsTells", fn := fun _ => fun
  | [d1, d2] => { results := [.lit (.bool true)], args := [d1, d2] }
  | _ => none }
def lbtsTellsRow : OpenClaim := { program := "yteomcpdfbaglaaa", sum := "75a897aa1c4392ade092efa56e5c8ab5ed0655280b45d69fb6bd6f536c71b4ee", func := "paceline/pacelinelaw18.LbtsTells", spec := "lbtsTells", unfollowed := true, recurses := true, apart := false }
def LbtsTellsSaid : Prop := lbtsTellsRow.holds Try.pinned (OpenSpec.ofChange lbtsTellsSpec)

/-- ITS FALSE NEIGHBOUR: 'it returns false'. Refute it at one input. -/
def lbtsTellsWrong : ChangeSpec := { name := "lbtsTells", fn := fun _ => fun
  | [d1, d2] => { results := [.lit (.bool false)], args := [d1, d2] }
  | _ => none }
def LbtsTellsWrongFalsely : Prop := lbtsTellsRow.holds Try.pinned (OpenSpec.ofChange lbtsTellsWrong)

/-- 'pacelinelaw18.LbtsLater': WHATEVER THE INPUT: true; the input reads as it did. -/
def lbtsLaterSpec : ChangeSpec := { name := "lbtsLater", fn := fun _ => fun
  | [d1, d2, d3, d4] => { results := [.lit (.bool true)], args := [d1, d2, d3, d4] }
  | _ => none }
def lbtsLaterRow : OpenClaim := { program := "yteomcpdfbaglaaa", sum := "75a897aa1c4392ade092efa56e5c8ab5ed0655280b45d69fb6bd6f536c71b4ee", func := "paceline/pacelinelaw18.LbtsLater", spec := "lbtsLater", unfollowed := true, recurses := true, apart := false }
def LbtsLaterSaid : Prop := lbtsLaterRow.holds Try.pinned (OpenSpec.ofChange lbtsLaterSpec)

/-- ITS FALSE NEIGHBOUR: 'it returns false'. Refute it at one input. -/
def lbtsLaterWrong : ChangeSpec := { name := "lbtsLater", fn := fun _ => fun
  | [d1, d2, d3, d4] => { results := [.lit (.bool false)], args := [d1, d2, d3, d4] }
  | _ => none }
def LbtsLaterWrongFalsely : Prop := lbtsLaterRow.holds Try.pinned (OpenSpec.ofChange lbtsLaterWrong)

/-- 'pacelinelaw18.LbtsNext': WHATEVER THE INPUT: true; the input reads as it did. -/
def lbtsNextSpec : ChangeSpec := { name := "lbtsNext", fn := fun _ => fun
  | [d1, d2, d3] => { results := [.lit (.bool true)], args := [d1, d2, d3] }
  | _ => none }
def lbtsNextRow : OpenClaim := { program := "yteomcpdfbaglaaa", sum := "75a897aa1c4392ade092efa56e5c8ab5ed0655280b45d69fb6bd6f536c71b4ee", func := "paceline/pacelinelaw18.LbtsNext", spec := "lbtsNext", unfollowed := true, recurses := true, apart := false }
def LbtsNextSaid : Prop := lbtsNextRow.holds Try.pinned (OpenSpec.ofChange lbtsNextSpec)

/-- ITS FALSE NEIGHBOUR: 'it returns false'. Refute it at one input. -/
def lbtsNextWrong : ChangeSpec := { name := "lbtsNext", fn := fun _ => fun
  | [d1, d2, d3] => { results := [.lit (.bool false)], args := [d1, d2, d3] }
  | _ => none }
def LbtsNextWrongFalsely : Prop := lbtsNextRow.holds Try.pinned (OpenSpec.ofChange lbtsNextWrong)

/-- 'pacelinelaw18.LbtsIdle': WHATEVER THE INPUT: true; the input reads as it did. -/
def lbtsIdleSpec : ChangeSpec := { name := "lbtsIdle", fn := fun _ => fun
  | [d1, d2, d3, d4] => { results := [.lit (.bool true)], args := [d1, d2, d3, d4] }
  | _ => none }
def lbtsIdleRow : OpenClaim := { program := "yteomcpdfbaglaaa", sum := "75a897aa1c4392ade092efa56e5c8ab5ed0655280b45d69fb6bd6f536c71b4ee", func := "paceline/pacelinelaw18.LbtsIdle", spec := "lbtsIdle", unfollowed := true, recurses := true, apart := false }
def LbtsIdleSaid : Prop := lbtsIdleRow.holds Try.pinned (OpenSpec.ofChange lbtsIdleSpec)

/-- ITS FALSE NEIGHBOUR: 'it returns false'. Refute it at one input. -/
def lbtsIdleWrong : ChangeSpec := { name := "lbtsIdle", fn := fun _ => fun
  | [d1, d2, d3, d4] => { results := [.lit (.bool false)], args := [d1, d2, d3, d4] }
  | _ => none }
def LbtsIdleWrongFalsely : Prop := lbtsIdleRow.holds Try.pinned (OpenSpec.ofChange lbtsIdleWrong)

/-- 'pacelinelaw18.LbtsTurned': WHATEVER THE INPUT: true; the input reads as it did. -/
def lbtsTurnedSpec : ChangeSpec := { name := "lbtsTurned", fn := fun _ => fun
  | [d1, d2] => { results := [.lit (.bool true)], args := [d1, d2] }
  | _ => none }
def lbtsTurnedRow : OpenClaim := { program := "yteomcpdfbaglaaa", sum := "75a897aa1c4392ade092efa56e5c8ab5ed0655280b45d69fb6bd6f536c71b4ee", func := "paceline/pacelinelaw18.LbtsTurned", spec := "lbtsTurned", unfollowed := true, recurses := true, apart := false }
def LbtsTurnedSaid : Prop := lbtsTurnedRow.holds Try.pinned (OpenSpec.ofChange lbtsTurnedSpec)

/-- ITS FALSE NEIGHBOUR: 'it returns false'. Refute it at one input. -/
def lbtsTurnedWrong : ChangeSpec := { name := "lbtsTurned", fn := fun _ => fun
  | [d1, d2] => { results := [.lit (.bool false)], args := [d1, d2] }
  | _ => none }
def LbtsTurnedWrongFalsely : Prop := lbtsTurnedRow.holds Try.pinned (OpenSpec.ofChange lbtsTurnedWrong)

/- THE SECOND FORM. 'bulk': how many values and letters a reading holds, each counted each time it is reached (what is shared counts as often as it is met; a slice's spare places count too). A statement '..UptoSaid' is the law's where the arguments, and the package variables that the reading takes, are together of bulk at most 1048576: NARROWER than '..Said'. Prove '..Said' where nothing that the law and all that it calls make is longer than what came in: it says more and counts as full. Else prove '..UptoSaid'. A law counts once. -/
mutual
def uptoBulk {H : Type} : DataW H → Nat
  | .lit (.string bytes) => bytes.length + 1
  | .lit _ => 1
  | .nil => 1
  | .ptr d => uptoBulk d + 1
  | .slice elems spare => uptoBulkAll elems + uptoBulkAll spare + 1
  | .agg parts => uptoBulkAll parts + 1
  | .iface _ d => uptoBulk d + 1
  | .map entries => uptoBulkEntries entries + 1
  | .held _ => 1
def uptoBulkAll {H : Type} : List (DataW H) → Nat
  | [] => 0
  | d :: r => uptoBulk d + uptoBulkAll r
def uptoBulkEntries {H : Type} : List (Lit × DataW H) → Nat
  | [] => 0
  | x :: r => uptoBulkEntry x + uptoBulkEntries r
def uptoBulkEntry {H : Type} : Lit × DataW H → Nat
  | (.string bytes, d) => bytes.length + uptoBulk d + 1
  | (_, d) => uptoBulk d + 1
 end
def uptoSmall : (H : Type) → List (DataW H) → Bool := fun _ ds => decide (uptoBulkAll ds ≤ 1048576)
def OpenSpec.upto (s : _root_.Go.ChangeSpec) : _root_.Go.OpenSpec := { _root_.Go.OpenSpec.ofChange s with cond := some uptoSmall }

/-- 'pacelinelaw18.LbtsGreatest', WHERE WHAT IT READS IS OF BULK AT MOST 1048576: true; the input reads as it did. -/
def lbtsGreatestUptoRow : OpenClaim := { program := "yteomcpdfbaglaaa", sum := "75a897aa1c4392ade092efa56e5c8ab5ed0655280b45d69fb6bd6f536c71b4ee", func := "paceline/pacelinelaw18.LbtsGreatest", spec := "lbtsGreatest", unfollowed := true, recurses := true, apart := false, narrowed := true }
def LbtsGreatestUptoSaid : Prop := lbtsGreatestUptoRow.holds Try.pinned (OpenSpec.upto lbtsGreatestSpec)

/-- 'pacelinelaw18.LbtsTells', WHERE WHAT IT READS IS OF BULK AT MOST 1048576: true; the input reads as it did. -/
def lbtsTellsUptoRow : OpenClaim := { program := "yteomcpdfbaglaaa", sum := "75a897aa1c4392ade092efa56e5c8ab5ed0655280b45d69fb6bd6f536c71b4ee", func := "paceline/pacelinelaw18.LbtsTells", spec := "lbtsTells", unfollowed := true, recurses := true, apart := false, narrowed := true }
def LbtsTellsUptoSaid : Prop := lbtsTellsUptoRow.holds Try.pinned (OpenSpec.upto lbtsTellsSpec)

/-- 'pacelinelaw18.LbtsLater', WHERE WHAT IT READS IS OF BULK AT MOST 1048576: true; the input reads as it did. -/
def lbtsLaterUptoRow : OpenClaim := { program := "yteomcpdfbaglaaa", sum := "75a897aa1c4392ade092efa56e5c8ab5ed0655280b45d69fb6bd6f536c71b4ee", func := "paceline/pacelinelaw18.LbtsLater", spec := "lbtsLater", unfollowed := true, recurses := true, apart := false, narrowed := true }
def LbtsLaterUptoSaid : Prop := lbtsLaterUptoRow.holds Try.pinned (OpenSpec.upto lbtsLaterSpec)

/-- 'pacelinelaw18.LbtsNext', WHERE WHAT IT READS IS OF BULK AT MOST 1048576: true; the input reads as it did. -/
def lbtsNextUptoRow : OpenClaim := { program := "yteomcpdfbaglaaa", sum := "75a897aa1c4392ade092efa56e5c8ab5ed0655280b45d69fb6bd6f536c71b4ee", func := "paceline/pacelinelaw18.LbtsNext", spec := "lbtsNext", unfollowed := true, recurses := true, apart := false, narrowed := true }
def LbtsNextUptoSaid : Prop := lbtsNextUptoRow.holds Try.pinned (OpenSpec.upto lbtsNextSpec)

/-- 'pacelinelaw18.LbtsIdle', WHERE WHAT IT READS IS OF BULK AT MOST 1048576: true; the input reads as it did. -/
def lbtsIdleUptoRow : OpenClaim := { program := "yteomcpdfbaglaaa", sum := "75a897aa1c4392ade092efa56e5c8ab5ed0655280b45d69fb6bd6f536c71b4ee", func := "paceline/pacelinelaw18.LbtsIdle", spec := "lbtsIdle", unfollowed := true, recurses := true, apart := false, narrowed := true }
def LbtsIdleUptoSaid : Prop := lbtsIdleUptoRow.holds Try.pinned (OpenSpec.upto lbtsIdleSpec)

/-- 'pacelinelaw18.LbtsTurned', WHERE WHAT IT READS IS OF BULK AT MOST 1048576: true; the input reads as it did. -/
def lbtsTurnedUptoRow : OpenClaim := { program := "yteomcpdfbaglaaa", sum := "75a897aa1c4392ade092efa56e5c8ab5ed0655280b45d69fb6bd6f536c71b4ee", func := "paceline/pacelinelaw18.LbtsTurned", spec := "lbtsTurned", unfollowed := true, recurses := true, apart := false, narrowed := true }
def LbtsTurnedUptoSaid : Prop := lbtsTurnedUptoRow.holds Try.pinned (OpenSpec.upto lbtsTurnedSpec)

end Rows
end Go.Proofs.Yteomcpdfbaglaaa
