/- The tied card of TopWaits, out of its row. -/
import Derived.Test.YtaaaocckfnlgdaaGreatDoorLawTopWaits
import Derived.Test.YtaaaocckfnlgdaaGreatDoorTie
import Derived.Test.YtaaaocckfnlgdaaGreatDoorCards
import Derived.SevenTiedAt
namespace Go.Proofs.YtaaaocckfnlgdaaGreatDoor
open Go
theorem topWaitsCard_holds : Rows.TopWaitsCardSaid :=
  Claim7.holds_tied_plain_at .later [] [.handle] true (true, "cb4064d99f1e412dce753b5952782485dd3e94db2caf9723a5a8777f869576f0") true
    topWaits.proved (fun _ h => by cases h) (by kernel_rfl) (fun _ h => by cases h) topWaits_row_tie rfl ⟨rfl, rfl⟩ (by kernel_rfl) rfl
    (fun f fn hf hfn => by
      obtain rfl : f = 4 := Option.some.inj ((show Tryz.prog.funcNamed "paceline/pacelinetop.TopWaits" = some 4 by kernel_rfl).symm.trans hf) |>.symm
      obtain rfl : fn = Tryz.f4 := (Option.some.inj (Tryz.func4.symm.trans hfn)).symm
      exact ⟨by kernel_rfl, fun j t ht => by
        rw [Tryz.params4] at ht
        have h3 : t = 5 := by
          rcases j with _ | _ | _ | j
          · simpa using ht.symm
          · simpa using ht.symm
          · simpa using ht.symm
          · simp at ht
        subst h3
        exact (show Tryz.prog.wantsStandIn 5 = false by kernel_rfl)⟩)
    (by kernel_rfl)
#print axioms topWaitsCard_holds
end Go.Proofs.YtaaaocckfnlgdaaGreatDoor
