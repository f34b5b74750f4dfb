import Derived.Test.YtaaaocckfnlgdaaGreatDoorLawTopDelivers
import Derived.Test.YtaaaocckfnlgdaaGreatDoorTie
import Derived.Test.YtaaaocckfnlgdaaGreatDoorCards
import Derived.SevenTiedAt
/- The tied card of TopDelivers, out of its row. -/
namespace Go.Proofs.YtaaaocckfnlgdaaGreatDoor
open Go
theorem topDeliversCard_holds : Rows.TopDeliversCardSaid :=
  Claim7.holds_tied_plain_at .later [] [.handle] true (true, "cb4064d99f1e412dce753b5952782485dd3e94db2caf9723a5a8777f869576f0") true
    topDelivers.proved (fun _ h => by cases h) (by kernel_rfl) (fun _ h => by cases h) topDelivers_row_tie rfl ⟨rfl, rfl⟩ (by kernel_rfl) rfl
    (fun f fn hf hfn => by
      obtain rfl : f = 5 := Option.some.inj ((show Tryz.prog.funcNamed "paceline/pacelinetop.TopDelivers" = some 5 by kernel_rfl).symm.trans hf) |>.symm
      obtain rfl : fn = Tryz.f5 := (Option.some.inj (Tryz.func5.symm.trans hfn)).symm
      exact ⟨by kernel_rfl, fun j t ht => by
        rw [Tryz.params5] at ht
        have h3 : t = 5 ∨ t = 22 := by
          rcases j with _ | _ | _ | j
          · right; simpa using ht.symm
          · left; simpa using ht.symm
          · left; simpa using ht.symm
          · simp at ht
        rcases h3 with rfl | rfl
        · exact (show Tryz.prog.wantsStandIn 5 = false by kernel_rfl)
        · exact (show Tryz.prog.wantsStandIn 22 = false by kernel_rfl)⟩)
    (by kernel_rfl)
#print axioms topDeliversCard_holds
end Go.Proofs.YtaaaocckfnlgdaaGreatDoor
