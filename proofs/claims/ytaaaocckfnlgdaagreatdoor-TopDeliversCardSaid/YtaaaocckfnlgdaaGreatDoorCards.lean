/-
  DERIVED. GIVEN WITH THE SEED: THE CARDS: each row of YtaaaocckfnlgdaaGreatDoorRows.lean that lists a variable, with what it lists TIED to the program's text (the seventh form; the later family's looks); each row that meets fmt, with fmt's text TOLD by the authors' own Lean function (tested against real Go, not proved from fmt's source: count such statements apart). THE CARD IS WHAT COUNTS. Prove the row's statement (the work); the ties are given (YtaaaocckfnlgdaaGreatDoorTie.lean); close each card by the builder's one call (the guide's Derived/Test/ToyasCard.lean, 'card_holds'). Laid BY PROGRAM, IN A SANDBOX (cutbox-door.mjs). By AI agents, Wed Nov 11 2026. No macro, syntax, notation, axiom, sorry.
-/
import Derived.Test.YtaaaocckfnlgdaaGreatDoorRows
import GoSem.ClaimSeven
namespace Go.Proofs.YtaaaocckfnlgdaaGreatDoor
namespace Rows

/-- THE TIED CARD OF 'pacelinetop.TopSteps'. -/
def topStepsCard : Claim7 := { stood := { row := topStepsRow, standIns := [], harness := (true, "cb4064d99f1e412dce753b5952782485dd3e94db2caf9723a5a8777f869576f0"), looks := true }, kinds := [], alts := [], laidByText := true, laidKinds := [.handle], laidTests := true, laidLooks := .later }
def TopStepsCardSaid : Prop := Claim7.holds Tryz.pinned (.plain (OpenSpec.ofChange topStepsSpec)) topStepsCard

/-- THE TIED CARD OF 'pacelinetop.TopWaits'. -/
def topWaitsCard : Claim7 := { stood := { row := topWaitsRow, standIns := [], harness := (true, "cb4064d99f1e412dce753b5952782485dd3e94db2caf9723a5a8777f869576f0"), looks := true }, kinds := [], alts := [], laidByText := true, laidKinds := [.handle], laidTests := true, laidLooks := .later }
def TopWaitsCardSaid : Prop := Claim7.holds Tryz.pinned (.plain (OpenSpec.ofChange topWaitsSpec)) topWaitsCard

/-- THE TIED CARD OF 'pacelinetop.TopDelivers'. -/
def topDeliversCard : Claim7 := { stood := { row := topDeliversRow, standIns := [], harness := (true, "cb4064d99f1e412dce753b5952782485dd3e94db2caf9723a5a8777f869576f0"), looks := true }, kinds := [], alts := [], laidByText := true, laidKinds := [.handle], laidTests := true, laidLooks := .later }
def TopDeliversCardSaid : Prop := Claim7.holds Tryz.pinned (.plain (OpenSpec.ofChange topDeliversSpec)) topDeliversCard

/-- THE SECOND FORM's CARD OF 'pacelinetop.TopSteps'. -/
def topStepsUptoCard : Claim7 := { stood := { row := topStepsUptoRow, standIns := [], harness := (true, "cb4064d99f1e412dce753b5952782485dd3e94db2caf9723a5a8777f869576f0"), looks := true }, kinds := [], alts := [], laidByText := true, laidKinds := [.handle], laidTests := true, laidLooks := .later }
def TopStepsUptoCardSaid : Prop := Claim7.holds Tryz.pinned (.plain (OpenSpec.upto topStepsSpec)) topStepsUptoCard

/-- THE SECOND FORM's CARD OF 'pacelinetop.TopWaits'. -/
def topWaitsUptoCard : Claim7 := { stood := { row := topWaitsUptoRow, standIns := [], harness := (true, "cb4064d99f1e412dce753b5952782485dd3e94db2caf9723a5a8777f869576f0"), looks := true }, kinds := [], alts := [], laidByText := true, laidKinds := [.handle], laidTests := true, laidLooks := .later }
def TopWaitsUptoCardSaid : Prop := Claim7.holds Tryz.pinned (.plain (OpenSpec.upto topWaitsSpec)) topWaitsUptoCard

/-- THE SECOND FORM's CARD OF 'pacelinetop.TopDelivers'. -/
def topDeliversUptoCard : Claim7 := { stood := { row := topDeliversUptoRow, standIns := [], harness := (true, "cb4064d99f1e412dce753b5952782485dd3e94db2caf9723a5a8777f869576f0"), looks := true }, kinds := [], alts := [], laidByText := true, laidKinds := [.handle], laidTests := true, laidLooks := .later }
def TopDeliversUptoCardSaid : Prop := Claim7.holds Tryz.pinned (.plain (OpenSpec.upto topDeliversSpec)) topDeliversUptoCard
end Rows
end Go.Proofs.YtaaaocckfnlgdaaGreatDoor
