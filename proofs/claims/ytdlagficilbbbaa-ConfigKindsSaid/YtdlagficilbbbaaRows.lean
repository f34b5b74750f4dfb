/-
  No cell of these rows narrows 'for every input' (looked for: loops, veiled, ifaces, maps, wideKeys, modest, calm, conditions, laid).
  DERIVED. THE GIVEN ROWS OF THIS SEAT. 6 by the template 'for every input the law returns true; each argument reads behind the call as it read before'; 0 by the template 'total and deterministic' (their statements: YtdlagficilbbbaaTotals.lean).
  GIVEN WITH THE SEED: the statements are not yours to turn. If you find one false, say at which input.
  Laid BY PROGRAM, IN A SANDBOX (cutbox-rows.mjs): the forced cells as the released guide's own fill.sh prints them over the translation 22a0dffb332385b2… (all of the seat's roots in one cut). By AI agents, Wed Nov 11 2026. No macro, syntax, notation, axiom, sorry.
-/
import Derived.Test.YtdlagficilbbbaaChecked
import GoSem.Claim
import GoSem.ClaimJoined
import GoSem.ClaimMapViews
import Derived.JoinedTies
import Derived.KernelRfl
namespace Go.Proofs.Ytdlagficilbbbaa
/- THE CELL 'sum', in the pinned program and in every row, IS THE sha256 OF THE DUMP (.gsa) THAT YtdlagficilbbbaaProg.lean LOADS. Nothing in Lean hashes anything: it is a label: what it is worth is what the hold of that sum in a sandbox is worth. -/
noncomputable def Try.pinned : Pinned := { name := "ytdlagficilbbbaa", sum := "22a0dffb332385b2b0cefd6f8325d4b3600c9cc920c2abf6c8e2a5489dae13ac", checked := Try.checked }
namespace Rows
def none {H : Type} : Left H := { results := [], args := [] }

/-- 'pacelinelaw08.ConfigChecks': WHATEVER THE INPUT: true; the input reads as it did. -/
def configChecksSpec : ChangeSpec := { name := "configChecks", fn := fun _ => fun
  | [d] => { results := [.lit (.bool true)], args := [d] }
  | _ => none }
def configChecksRow : OpenClaim := { program := "ytdlagficilbbbaa", sum := "22a0dffb332385b2b0cefd6f8325d4b3600c9cc920c2abf6c8e2a5489dae13ac", func := "paceline/pacelinelaw08.ConfigChecks", spec := "configChecks", unfollowed := true, recurses := true, plainKeys := false, apart := false }
def ConfigChecksSaid : Prop := configChecksRow.holds Try.pinned (OpenSpec.ofChange configChecksSpec)

/-- ITS FALSE NEIGHBOUR: 'it returns false'. Refute it at one input. -/
def configChecksWrong : ChangeSpec := { name := "configChecks", fn := fun _ => fun
  | [d] => { results := [.lit (.bool false)], args := [d] }
  | _ => none }
def ConfigChecksWrongFalsely : Prop := configChecksRow.holds Try.pinned (OpenSpec.ofChange configChecksWrong)

/-- 'pacelinelaw08.ConfigSpreads': WHATEVER THE INPUT: true; the input reads as it did. -/
def configSpreadsSpec : ChangeSpec := { name := "configSpreads", fn := fun _ => fun
  | [d1, d2, d3, d4, d5, d6] => { results := [.lit (.bool true)], args := [d1, d2, d3, d4, d5, d6] }
  | _ => none }
def configSpreadsRow : OpenClaim := { program := "ytdlagficilbbbaa", sum := "22a0dffb332385b2b0cefd6f8325d4b3600c9cc920c2abf6c8e2a5489dae13ac", func := "paceline/pacelinelaw08.ConfigSpreads", spec := "configSpreads", unfollowed := true, recurses := true, plainKeys := false, apart := false }
def ConfigSpreadsSaid : Prop := configSpreadsRow.holds Try.pinned (OpenSpec.ofChange configSpreadsSpec)

/-- ITS FALSE NEIGHBOUR: 'it returns false'. Refute it at one input. -/
def configSpreadsWrong : ChangeSpec := { name := "configSpreads", fn := fun _ => fun
  | [d1, d2, d3, d4, d5, d6] => { results := [.lit (.bool false)], args := [d1, d2, d3, d4, d5, d6] }
  | _ => none }
def ConfigSpreadsWrongFalsely : Prop := configSpreadsRow.holds Try.pinned (OpenSpec.ofChange configSpreadsWrong)

/-- 'pacelinelaw08.ConfigLater': WHATEVER THE INPUT: true; the input reads as it did. -/
def configLaterSpec : ChangeSpec := { name := "configLater", fn := fun _ => fun
  | [d1, d2, d3, d4, d5] => { results := [.lit (.bool true)], args := [d1, d2, d3, d4, d5] }
  | _ => none }
def configLaterRow : OpenClaim := { program := "ytdlagficilbbbaa", sum := "22a0dffb332385b2b0cefd6f8325d4b3600c9cc920c2abf6c8e2a5489dae13ac", func := "paceline/pacelinelaw08.ConfigLater", spec := "configLater", unfollowed := true, recurses := true, plainKeys := false, apart := false }
def ConfigLaterSaid : Prop := configLaterRow.holds Try.pinned (OpenSpec.ofChange configLaterSpec)

/-- ITS FALSE NEIGHBOUR: 'it returns false'. Refute it at one input. -/
def configLaterWrong : ChangeSpec := { name := "configLater", fn := fun _ => fun
  | [d1, d2, d3, d4, d5] => { results := [.lit (.bool false)], args := [d1, d2, d3, d4, d5] }
  | _ => none }
def ConfigLaterWrongFalsely : Prop := configLaterRow.holds Try.pinned (OpenSpec.ofChange configLaterWrong)

/-- 'pacelinelaw08.ConfigKeys': WHATEVER THE INPUT: true; the input reads as it did. -/
def configKeysSpec : ChangeSpec := { name := "configKeys", fn := fun _ => fun
  | [d] => { results := [.lit (.bool true)], args := [d] }
  | _ => none }
def configKeysRow : OpenClaim := { program := "ytdlagficilbbbaa", sum := "22a0dffb332385b2b0cefd6f8325d4b3600c9cc920c2abf6c8e2a5489dae13ac", func := "paceline/pacelinelaw08.ConfigKeys", spec := "configKeys", unfollowed := true, recurses := true, plainKeys := false, apart := false }
def ConfigKeysSaid : Prop := configKeysRow.holds Try.pinned (OpenSpec.ofChange configKeysSpec)

/-- ITS FALSE NEIGHBOUR: 'it returns false'. Refute it at one input. -/
def configKeysWrong : ChangeSpec := { name := "configKeys", fn := fun _ => fun
  | [d] => { results := [.lit (.bool false)], args := [d] }
  | _ => none }
def ConfigKeysWrongFalsely : Prop := configKeysRow.holds Try.pinned (OpenSpec.ofChange configKeysWrong)

/-- 'pacelinelaw08.ConfigKinds': WHATEVER THE INPUT: true; the input reads as it did. -/
def configKindsSpec : ChangeSpec := { name := "configKinds", fn := fun _ => fun
  | [d1, d2] => { results := [.lit (.bool true)], args := [d1, d2] }
  | _ => none }
def configKindsRow : OpenClaim := { program := "ytdlagficilbbbaa", sum := "22a0dffb332385b2b0cefd6f8325d4b3600c9cc920c2abf6c8e2a5489dae13ac", func := "paceline/pacelinelaw08.ConfigKinds", spec := "configKinds", unfollowed := true, recurses := true, plainKeys := false, apart := false }
def ConfigKindsSaid : Prop := configKindsRow.holds Try.pinned (OpenSpec.ofChange configKindsSpec)

/-- ITS FALSE NEIGHBOUR: 'it returns false'. Refute it at one input. -/
def configKindsWrong : ChangeSpec := { name := "configKinds", fn := fun _ => fun
  | [d1, d2] => { results := [.lit (.bool false)], args := [d1, d2] }
  | _ => none }
def ConfigKindsWrongFalsely : Prop := configKindsRow.holds Try.pinned (OpenSpec.ofChange configKindsWrong)

/-- 'pacelinelaw08.ConfigMuch': WHATEVER THE INPUT: true; the input reads as it did. -/
def configMuchSpec : ChangeSpec := { name := "configMuch", fn := fun _ => fun
  | [d1, d2, d3] => { results := [.lit (.bool true)], args := [d1, d2, d3] }
  | _ => none }
def configMuchRow : OpenClaim := { program := "ytdlagficilbbbaa", sum := "22a0dffb332385b2b0cefd6f8325d4b3600c9cc920c2abf6c8e2a5489dae13ac", func := "paceline/pacelinelaw08.ConfigMuch", spec := "configMuch", unfollowed := true, recurses := true, plainKeys := false, apart := false }
def ConfigMuchSaid : Prop := configMuchRow.holds Try.pinned (OpenSpec.ofChange configMuchSpec)

/-- ITS FALSE NEIGHBOUR: 'it returns false'. Refute it at one input. -/
def configMuchWrong : ChangeSpec := { name := "configMuch", fn := fun _ => fun
  | [d1, d2, d3] => { results := [.lit (.bool false)], args := [d1, d2, d3] }
  | _ => none }
def ConfigMuchWrongFalsely : Prop := configMuchRow.holds Try.pinned (OpenSpec.ofChange configMuchWrong)

/- THE SECOND FORM. 'bulk': how many values and letters a reading holds, each counted each time it is reached (what is shared counts as often as it is met; a slice's spare places count too). A statement '..UptoSaid' is the law's where the arguments, and the package variables that the reading takes, are together of bulk at most 1048576: NARROWER than '..Said'. Prove '..Said' where nothing that the law and all that it calls make is longer than what came in: it says more and counts as full. Else prove '..UptoSaid'. A law counts once. -/
mutual
def uptoBulk {H : Type} : DataW H → Nat
  | .lit (.string bytes) => bytes.length + 1
  | .lit _ => 1
  | .nil => 1
  | .ptr d => uptoBulk d + 1
  | .slice elems spare => uptoBulkAll elems + uptoBulkAll spare + 1
  | .agg parts => uptoBulkAll parts + 1
  | .iface _ d => uptoBulk d + 1
  | .map entries => uptoBulkEntries entries + 1
  | .held _ => 1
def uptoBulkAll {H : Type} : List (DataW H) → Nat
  | [] => 0
  | d :: r => uptoBulk d + uptoBulkAll r
def uptoBulkEntries {H : Type} : List (Lit × DataW H) → Nat
  | [] => 0
  | x :: r => uptoBulkEntry x + uptoBulkEntries r
def uptoBulkEntry {H : Type} : Lit × DataW H → Nat
  | (.string bytes, d) => bytes.length + uptoBulk d + 1
  | (_, d) => uptoBulk d + 1
 end
def uptoSmall : (H : Type) → List (DataW H) → Bool := fun _ ds => decide (uptoBulkAll ds ≤ 1048576)
def OpenSpec.upto (s : _root_.Go.ChangeSpec) : _root_.Go.OpenSpec := { _root_.Go.OpenSpec.ofChange s with cond := some uptoSmall }

/-- 'pacelinelaw08.ConfigChecks', WHERE WHAT IT READS IS OF BULK AT MOST 1048576: true; the input reads as it did. -/
def configChecksUptoRow : OpenClaim := { program := "ytdlagficilbbbaa", sum := "22a0dffb332385b2b0cefd6f8325d4b3600c9cc920c2abf6c8e2a5489dae13ac", func := "paceline/pacelinelaw08.ConfigChecks", spec := "configChecks", unfollowed := true, recurses := true, plainKeys := false, apart := false, narrowed := true }
def ConfigChecksUptoSaid : Prop := configChecksUptoRow.holds Try.pinned (OpenSpec.upto configChecksSpec)

/-- 'pacelinelaw08.ConfigSpreads', WHERE WHAT IT READS IS OF BULK AT MOST 1048576: true; the input reads as it did. -/
def configSpreadsUptoRow : OpenClaim := { program := "ytdlagficilbbbaa", sum := "22a0dffb332385b2b0cefd6f8325d4b3600c9cc920c2abf6c8e2a5489dae13ac", func := "paceline/pacelinelaw08.ConfigSpreads", spec := "configSpreads", unfollowed := true, recurses := true, plainKeys := false, apart := false, narrowed := true }
def ConfigSpreadsUptoSaid : Prop := configSpreadsUptoRow.holds Try.pinned (OpenSpec.upto configSpreadsSpec)

/-- 'pacelinelaw08.ConfigLater', WHERE WHAT IT READS IS OF BULK AT MOST 1048576: true; the input reads as it did. -/
def configLaterUptoRow : OpenClaim := { program := "ytdlagficilbbbaa", sum := "22a0dffb332385b2b0cefd6f8325d4b3600c9cc920c2abf6c8e2a5489dae13ac", func := "paceline/pacelinelaw08.ConfigLater", spec := "configLater", unfollowed := true, recurses := true, plainKeys := false, apart := false, narrowed := true }
def ConfigLaterUptoSaid : Prop := configLaterUptoRow.holds Try.pinned (OpenSpec.upto configLaterSpec)

/-- 'pacelinelaw08.ConfigKeys', WHERE WHAT IT READS IS OF BULK AT MOST 1048576: true; the input reads as it did. -/
def configKeysUptoRow : OpenClaim := { program := "ytdlagficilbbbaa", sum := "22a0dffb332385b2b0cefd6f8325d4b3600c9cc920c2abf6c8e2a5489dae13ac", func := "paceline/pacelinelaw08.ConfigKeys", spec := "configKeys", unfollowed := true, recurses := true, plainKeys := false, apart := false, narrowed := true }
def ConfigKeysUptoSaid : Prop := configKeysUptoRow.holds Try.pinned (OpenSpec.upto configKeysSpec)

/-- 'pacelinelaw08.ConfigKinds', WHERE WHAT IT READS IS OF BULK AT MOST 1048576: true; the input reads as it did. -/
def configKindsUptoRow : OpenClaim := { program := "ytdlagficilbbbaa", sum := "22a0dffb332385b2b0cefd6f8325d4b3600c9cc920c2abf6c8e2a5489dae13ac", func := "paceline/pacelinelaw08.ConfigKinds", spec := "configKinds", unfollowed := true, recurses := true, plainKeys := false, apart := false, narrowed := true }
def ConfigKindsUptoSaid : Prop := configKindsUptoRow.holds Try.pinned (OpenSpec.upto configKindsSpec)

/-- 'pacelinelaw08.ConfigMuch', WHERE WHAT IT READS IS OF BULK AT MOST 1048576: true; the input reads as it did. -/
def configMuchUptoRow : OpenClaim := { program := "ytdlagficilbbbaa", sum := "22a0dffb332385b2b0cefd6f8325d4b3600c9cc920c2abf6c8e2a5489dae13ac", func := "paceline/pacelinelaw08.ConfigMuch", spec := "configMuch", unfollowed := true, recurses := true, plainKeys := false, apart := false, narrowed := true }
def ConfigMuchUptoSaid : Prop := configMuchUptoRow.holds Try.pinned (OpenSpec.upto configMuchSpec)

end Rows
end Go.Proofs.Ytdlagficilbbbaa
