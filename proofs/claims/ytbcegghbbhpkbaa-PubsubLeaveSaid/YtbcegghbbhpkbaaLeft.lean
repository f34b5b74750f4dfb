/- Of PubsubLeave: what one federate has done is seen of no other. -/
import Derived.Test.YtbcegghbbhpkbaaSteps
namespace Go.Proofs.YtbcegghbbhpkbaaT
open Go.RowKit Go.Proofs.YtbcegghbbhpkbaaW.PrintWords Go.Proofs.YtbcegghbbhpkbaaU
set_option linter.unusedVariables false
set_option linter.unusedSimpArgs false
/-- All but F go together; of F the lists tell nothing. -/
def RelBut (n F : Nat) (ps : List Int) (Lp : List (List Int)) : Prop := (∀ g : Nat, g < 8 → g ≠ F → RelAt n ps Lp g) ∧ Lp.getD F [] = []
theorem relat_of_agree {n F : Nat} {ps qs : List Int} {Lp : List (List Int)} (h : Agree F qs ps) {g : Nat} (hg : g < 8) (hgF : g ≠ F) (hr : RelAt n ps Lp g) : RelAt n qs Lp g := fun c hc => by
  rw [h g hg hgF]
  exact hr c hc
theorem relbut_self {n F : Nat} {ps qs : List Int} {Lp : List (List Int)} (h : Agree F qs ps) (hr : RelBut n F ps Lp) : RelBut n F qs Lp := ⟨fun g hg hgF => relat_of_agree h hg hgF (hr.1 g hg hgF), hr.2⟩
theorem agree_refl (F : Nat) (ps : List Int) : Agree F ps ps := fun _ _ _ => rfl
theorem putL_far {n F : Nat} {Lp : List (List Int)} {f c : Int} {is : Bool} (hf : f ≠ F) : (putL n Lp f c is).getD F [] = Lp.getD F [] := by
  by_cases he : errT n f c = 0
  · obtain ⟨G, C, rfl, rfl, hG, hC⟩ := errT_inv he
    rw [putL_ok hG hC, getD_set_other _ _ (by omega)]
  · rw [putL_no he]
theorem leaveL_far {F : Nat} {Lp : List (List Int)} {f : Int} (hf : f ≠ F) : (leaveL Lp f).getD F [] = Lp.getD F [] := by
  by_cases he : 0 ≤ f ∧ f < 8
  · obtain ⟨G, rfl⟩ : ∃ G : Nat, f = G := ⟨f.toNat, by omega⟩
    rw [leaveL_ok (by omega), getD_set_other _ _ (by omega)]
  · rw [leaveL_no he]
theorem relbut_doP {n F : Nat} {ps : List Int} {Lp : List (List Int)} (hn : n ≤ 16) (hw : ps.length = 8) (hL : Lp.length = 8) (h : RelBut n F ps Lp) (k f c : Int) (is : Bool) (hf : f ≠ F) : RelBut n F (doP n ps k f c is) (doLp n Lp k f c is) :=
  ⟨fun g hg hgF => rel_doP hn hw hL (h.1 g hg hgF) k f c is, by
    unfold doLp
    split
    · exact (putL_far hf).trans h.2
    · split
      · exact (leaveL_far hf).trans h.2
      · exact h.2⟩
theorem relbut_doS {n F : Nat} {ps : List Int} {Lp : List (List Int)} (hn : n ≤ 16) (hw : ps.length = 8) (hL : Lp.length = 8) (h : RelBut n F ps Lp) (k f c : Int) (is : Bool) (hf : f ≠ F) : RelBut n F (doS n ps k f c is) (doLs n Lp k f c is) :=
  ⟨fun g hg hgF => rel_doS hn hw hL (h.1 g hg hgF) k f c is, by
    unfold doLs
    split
    · exact (putL_far hf).trans h.2
    · split
      · exact (leaveL_far hf).trans h.2
      · exact h.2⟩
theorem relbut_new (n F : Nat) (hF : F < 8) : RelBut n F (List.replicate 8 0) (List.replicate 8 []) := ⟨fun g hg _ => rel_new n g hg, by rw [List.getD_eq_getElem?_getD, List.getElem?_replicate, if_pos hF]; rfl⟩
/-- Who leaves is as if it had never done anything. -/
theorem rel_left {n F : Nat} {ps : List Int} {Lp : List (List Int)} (hF : F < 8) (hw : ps.length = 8) (h : RelBut n F ps Lp) : Rel n (leaveW ps F) Lp := fun g hg => by
  rw [leaveW_ok hF]
  by_cases e : F = g
  · subst e
    intro c hc
    rw [getD_set_self _ _ (by omega), h.2]
    simp
  · intro c hc
    rw [getD_set_other _ _ e]
    exact h.1 g hg (Ne.symm e) c hc
end Go.Proofs.YtbcegghbbhpkbaaT
