-- Written by gp.py (this project's driver over the kit's print) out of the translation and wip/given; Lean checks it.
import Derived.Test.YtdlagficilbbbaaPConfigKindsx0
import Derived.Test.YtdlagficilbbbaaPConfigKindsx5
import Derived.Test.YtdlagficilbbbaaPConfigKindsx7
import Derived.Test.YtdlagficilbbbaaPConfigKindsx8
namespace Go.Proofs.Ytdlagficilbbbaa.PConfigKinds
open Go.RowKit Go.Proofs.YtdlagficilbbbaaR Go.Proofs.YtdlagficilbbbaaW.PrintWords Go.Proofs.YtdlagficilbbbaaW.PrintLast Go.Proofs.YtdlagficilbbbaaW.PrintMore
attribute [local go_sem] max2_int min2_int max_two min_two max_three min_three max_four min_four   -- for this text's walks alone
set_option linter.unusedVariables false
set_option linter.unusedSimpArgs false

/-! ### pacelineref08_Fed: function 28 -/
mutual
def pacelineref08_Fed.j0 : Nat → Int → Bool → Int → Int → Int → List (S44) → List Int → List Int → List (S55) → Option (Int)
 | 0, _, _, _, _, _, _, _, _, _ => none
 | k + 1, x1, x17, x132000, x132001, x132002, x132003, x132004, x132005, x132006 => if x17 = true then (some 1) else (if x132001 < 1 then (pacelineref08_Fed.j1 k x1 true x132000 x132001 x132002 x132003 x132004 x132005 x132006) else (pacelineref08_Fed.j1 k x1 (decide (x132001 > 1048576)) x132000 x132001 x132002 x132003 x132004 x132005 x132006))
def pacelineref08_Fed.j1 : Nat → Int → Bool → Int → Int → Int → List (S44) → List Int → List Int → List (S55) → Option (Int)
 | 0, _, _, _, _, _, _, _, _, _ => none
 | k + 1, x1, x25, x132000, x132001, x132002, x132003, x132004, x132005, x132006 => if x25 = true then (some 80) else (if x132002 < 0 then (pacelineref08_Fed.j2 k x1 true x132000 x132001 x132002 x132003 x132004 x132005 x132006) else (if x132002 ≥ 8 then (pacelineref08_Fed.j2 k x1 true x132000 x132001 x132002 x132003 x132004 x132005 x132006) else ((pacelineref07_Check.f k x132003).bind fun t132 => (pacelineref08_Fed.j2 k x1 (t132 != 0) x132000 x132001 x132002 x132003 x132004 x132005 x132006))))
def pacelineref08_Fed.j2 : Nat → Int → Bool → Int → Int → Int → List (S44) → List Int → List Int → List (S55) → Option (Int)
 | 0, _, _, _, _, _, _, _, _, _ => none
 | k + 1, x1, x39, x132000, x132001, x132002, x132003, x132004, x132005, x132006 => if x39 = true then (some 70) else ((pacelineref08_classes.f k x132004 x1).bind fun t133 => (if t133 = true then ((pacelineref08_classes.f k x132005 x1).bind fun t134 => (pacelineref08_Fed.j3 k x1 (!t134) x132000 x132001 x132002 x132003 x132004 x132005 x132006)) else (pacelineref08_Fed.j3 k x1 true x132000 x132001 x132002 x132003 x132004 x132005 x132006)))
def pacelineref08_Fed.j3 : Nat → Int → Bool → Int → Int → Int → List (S44) → List Int → List Int → List (S55) → Option (Int)
 | 0, _, _, _, _, _, _, _, _, _ => none
 | k + 1, x1, x51, x132000, x132001, x132002, x132003, x132004, x132005, x132006 => if x51 = true then (some 81) else (pacelineref08_Fed.l0 k x1 0 x132000 x132001 x132002 x132003 x132004 x132005 x132006)
def pacelineref08_Fed.l0 : Nat → Int → Int → Int → Int → Int → List (S44) → List Int → List Int → List (S55) → Option (Int)
 | 0, _, _, _, _, _, _, _, _, _ => none
 | k + 1, x1, x5, x132000, x132001, x132002, x132003, x132004, x132005, x132006 => if x5 < (x132003.length : Int) then (if 0 ≤ x5 then (if ((rd_T44 x132003 x5).f1) ≥ x1 then (some 81) else (pacelineref08_Fed.l1 k x1 x5 0 x132000 x132001 x132002 x132003 x132004 x132005 x132006)) else (none)) else (if (x132006.length : Int) > 4 then (some 82) else (pacelineref08_Fed.l2 k 0 x132000 x132001 x132002 x132003 x132004 x132005 x132006))
def pacelineref08_Fed.l1 : Nat → Int → Int → Int → Int → Int → Int → List (S44) → List Int → List Int → List (S55) → Option (Int)
 | 0, _, _, _, _, _, _, _, _, _, _ => none
 | k + 1, x1, x5, x6, x132000, x132001, x132002, x132003, x132004, x132005, x132006 => if 0 ≤ x5 then (if x5 < (x132003.length : Int) then (if x6 < (((rd_T44 x132003 x5).f3).length : Int) then (if 0 ≤ x6 then ((pacelineref05_Has.f k x132004 ((rd_T55 ((rd_T44 x132003 x5).f3) x6).f0)).bind fun t140 => (if t140 = true then (if ((rd_T55 ((rd_T44 x132003 x5).f3) x6).f1) < x132001 then (some 80) else (pacelineref08_Fed.l1 k x1 x5 (wrap64 (x6 + 1)) x132000 x132001 x132002 x132003 x132004 x132005 x132006)) else (some 81))) else (none)) else (pacelineref08_Fed.l0 k x1 (wrap64 (x5 + 1)) x132000 x132001 x132002 x132003 x132004 x132005 x132006)) else (none)) else (none)
def pacelineref08_Fed.l2 : Nat → Int → Int → Int → Int → List (S44) → List Int → List Int → List (S55) → Option (Int)
 | 0, _, _, _, _, _, _, _, _ => none
 | k + 1, x8, x132000, x132001, x132002, x132003, x132004, x132005, x132006 => if x8 < (x132006.length : Int) then (if 0 ≤ x8 then ((pacelineref05_Has.f k x132004 ((rd_T55 x132006 x8).f0)).bind fun t143 => (if t143 = true then (if ((rd_T55 x132006 x8).f1) < 0 then (some 82) else (if ((rd_T55 x132006 x8).f1) > 1099511627776 then (some 82) else (if ((rd_T55 x132006 x8).f2) < 0 then (some 82) else (if ((rd_T55 x132006 x8).f2) ≥ 1000 then (some 82) else (pacelineref08_Fed.l2 k (wrap64 (x8 + 1)) x132000 x132001 x132002 x132003 x132004 x132005 x132006))))) else (some 82))) else (none)) else (some 0)
end
def pacelineref08_Fed.f (k : Nat) (a0_0 : Int) (a0_1 : Int) (a0_2 : Int) (l0_3 : List (S44)) (l0_4 : List Int) (l0_5 : List Int) (l0_6 : List (S55)) (a1 : Int) : Option (Int) := if a0_0 = 0 then (pacelineref08_Fed.j0 k a1 false a0_0 a0_1 a0_2 l0_3 l0_4 l0_5 l0_6) else (pacelineref08_Fed.j0 k a1 (a0_0 != 1) a0_0 a0_1 a0_2 l0_3 l0_4 l0_5 l0_6)
theorem pacelineref08_Fed.mono_l : ∀ k, (∀ y0 y1 y2 y3 y4 y5 y6 y7 y8, LeO (pacelineref08_Fed.j0 k y0 y1 y2 y3 y4 y5 y6 y7 y8) (pacelineref08_Fed.j0 (k + 1) y0 y1 y2 y3 y4 y5 y6 y7 y8)) ∧ (∀ y0 y1 y2 y3 y4 y5 y6 y7 y8, LeO (pacelineref08_Fed.j1 k y0 y1 y2 y3 y4 y5 y6 y7 y8) (pacelineref08_Fed.j1 (k + 1) y0 y1 y2 y3 y4 y5 y6 y7 y8)) ∧ (∀ y0 y1 y2 y3 y4 y5 y6 y7 y8, LeO (pacelineref08_Fed.j2 k y0 y1 y2 y3 y4 y5 y6 y7 y8) (pacelineref08_Fed.j2 (k + 1) y0 y1 y2 y3 y4 y5 y6 y7 y8)) ∧ (∀ y0 y1 y2 y3 y4 y5 y6 y7 y8, LeO (pacelineref08_Fed.j3 k y0 y1 y2 y3 y4 y5 y6 y7 y8) (pacelineref08_Fed.j3 (k + 1) y0 y1 y2 y3 y4 y5 y6 y7 y8)) ∧ (∀ y0 y1 y2 y3 y4 y5 y6 y7 y8, LeO (pacelineref08_Fed.l0 k y0 y1 y2 y3 y4 y5 y6 y7 y8) (pacelineref08_Fed.l0 (k + 1) y0 y1 y2 y3 y4 y5 y6 y7 y8)) ∧ (∀ y0 y1 y2 y3 y4 y5 y6 y7 y8 y9, LeO (pacelineref08_Fed.l1 k y0 y1 y2 y3 y4 y5 y6 y7 y8 y9) (pacelineref08_Fed.l1 (k + 1) y0 y1 y2 y3 y4 y5 y6 y7 y8 y9)) ∧ (∀ y0 y1 y2 y3 y4 y5 y6 y7, LeO (pacelineref08_Fed.l2 k y0 y1 y2 y3 y4 y5 y6 y7) (pacelineref08_Fed.l2 (k + 1) y0 y1 y2 y3 y4 y5 y6 y7))
 | 0 => ⟨fun _ _ _ _ _ _ _ _ _ r h => by simp [pacelineref08_Fed.j0] at h, fun _ _ _ _ _ _ _ _ _ r h => by simp [pacelineref08_Fed.j1] at h, fun _ _ _ _ _ _ _ _ _ r h => by simp [pacelineref08_Fed.j2] at h, fun _ _ _ _ _ _ _ _ _ r h => by simp [pacelineref08_Fed.j3] at h, fun _ _ _ _ _ _ _ _ _ r h => by simp [pacelineref08_Fed.l0] at h, fun _ _ _ _ _ _ _ _ _ _ r h => by simp [pacelineref08_Fed.l1] at h, fun _ _ _ _ _ _ _ _ r h => by simp [pacelineref08_Fed.l2] at h⟩
 | k + 1 => by
  obtain ⟨ih0, ih1, ih2, ih3, ih4, ih5, ih6⟩ := pacelineref08_Fed.mono_l k
  refine ⟨?_, ?_, ?_, ?_, ?_, ?_, ?_⟩
  ·intro y0 y1 y2 y3 y4 y5 y6 y7 y8
   unfold pacelineref08_Fed.j0
   repeat' first
   | (with_reducible exact ih0 _ _ _ _ _ _ _ _ _)
   | (with_reducible exact ih1 _ _ _ _ _ _ _ _ _)
   | (with_reducible exact ih2 _ _ _ _ _ _ _ _ _)
   | (with_reducible exact ih3 _ _ _ _ _ _ _ _ _)
   | (with_reducible exact ih4 _ _ _ _ _ _ _ _ _)
   | (with_reducible exact ih5 _ _ _ _ _ _ _ _ _ _)
   | (with_reducible exact ih6 _ _ _ _ _ _ _ _)
   | (with_reducible exact pacelineref05_Has.mono _ _ _)
   | (with_reducible exact pacelineref07_Check.mono _ _)
   | (with_reducible exact pacelineref08_classes.mono _ _ _)
   | (with_reducible exact LeO.refl _)
   | (with_reducible exact LeO.none _)
   | (with_reducible refine LeO.ite ?_ ?_)
   | (with_reducible refine LeO.bind ?_ (fun _ => ?_))
   | exact ih0 _ _ _ _ _ _ _ _ _
   | exact ih1 _ _ _ _ _ _ _ _ _
   | exact ih2 _ _ _ _ _ _ _ _ _
   | exact ih3 _ _ _ _ _ _ _ _ _
   | exact ih4 _ _ _ _ _ _ _ _ _
   | exact ih5 _ _ _ _ _ _ _ _ _ _
   | exact ih6 _ _ _ _ _ _ _ _
   | exact pacelineref05_Has.mono _ _ _
   | exact pacelineref07_Check.mono _ _
   | exact pacelineref08_classes.mono _ _ _
   | exact LeO.none _
   | refine LeO.ite ?_ ?_
   | refine LeO.bind ?_ (fun _ => ?_)
  ·intro y0 y1 y2 y3 y4 y5 y6 y7 y8
   unfold pacelineref08_Fed.j1
   repeat' first
   | (with_reducible exact ih0 _ _ _ _ _ _ _ _ _)
   | (with_reducible exact ih1 _ _ _ _ _ _ _ _ _)
   | (with_reducible exact ih2 _ _ _ _ _ _ _ _ _)
   | (with_reducible exact ih3 _ _ _ _ _ _ _ _ _)
   | (with_reducible exact ih4 _ _ _ _ _ _ _ _ _)
   | (with_reducible exact ih5 _ _ _ _ _ _ _ _ _ _)
   | (with_reducible exact ih6 _ _ _ _ _ _ _ _)
   | (with_reducible exact pacelineref05_Has.mono _ _ _)
   | (with_reducible exact pacelineref07_Check.mono _ _)
   | (with_reducible exact pacelineref08_classes.mono _ _ _)
   | (with_reducible exact LeO.refl _)
   | (with_reducible exact LeO.none _)
   | (with_reducible refine LeO.ite ?_ ?_)
   | (with_reducible refine LeO.bind ?_ (fun _ => ?_))
   | exact ih0 _ _ _ _ _ _ _ _ _
   | exact ih1 _ _ _ _ _ _ _ _ _
   | exact ih2 _ _ _ _ _ _ _ _ _
   | exact ih3 _ _ _ _ _ _ _ _ _
   | exact ih4 _ _ _ _ _ _ _ _ _
   | exact ih5 _ _ _ _ _ _ _ _ _ _
   | exact ih6 _ _ _ _ _ _ _ _
   | exact pacelineref05_Has.mono _ _ _
   | exact pacelineref07_Check.mono _ _
   | exact pacelineref08_classes.mono _ _ _
   | exact LeO.none _
   | refine LeO.ite ?_ ?_
   | refine LeO.bind ?_ (fun _ => ?_)
  ·intro y0 y1 y2 y3 y4 y5 y6 y7 y8
   unfold pacelineref08_Fed.j2
   repeat' first
   | (with_reducible exact ih0 _ _ _ _ _ _ _ _ _)
   | (with_reducible exact ih1 _ _ _ _ _ _ _ _ _)
   | (with_reducible exact ih2 _ _ _ _ _ _ _ _ _)
   | (with_reducible exact ih3 _ _ _ _ _ _ _ _ _)
   | (with_reducible exact ih4 _ _ _ _ _ _ _ _ _)
   | (with_reducible exact ih5 _ _ _ _ _ _ _ _ _ _)
   | (with_reducible exact ih6 _ _ _ _ _ _ _ _)
   | (with_reducible exact pacelineref05_Has.mono _ _ _)
   | (with_reducible exact pacelineref07_Check.mono _ _)
   | (with_reducible exact pacelineref08_classes.mono _ _ _)
   | (with_reducible exact LeO.refl _)
   | (with_reducible exact LeO.none _)
   | (with_reducible refine LeO.ite ?_ ?_)
   | (with_reducible refine LeO.bind ?_ (fun _ => ?_))
   | exact ih0 _ _ _ _ _ _ _ _ _
   | exact ih1 _ _ _ _ _ _ _ _ _
   | exact ih2 _ _ _ _ _ _ _ _ _
   | exact ih3 _ _ _ _ _ _ _ _ _
   | exact ih4 _ _ _ _ _ _ _ _ _
   | exact ih5 _ _ _ _ _ _ _ _ _ _
   | exact ih6 _ _ _ _ _ _ _ _
   | exact pacelineref05_Has.mono _ _ _
   | exact pacelineref07_Check.mono _ _
   | exact pacelineref08_classes.mono _ _ _
   | exact LeO.none _
   | refine LeO.ite ?_ ?_
   | refine LeO.bind ?_ (fun _ => ?_)
  ·intro y0 y1 y2 y3 y4 y5 y6 y7 y8
   unfold pacelineref08_Fed.j3
   repeat' first
   | (with_reducible exact ih0 _ _ _ _ _ _ _ _ _)
   | (with_reducible exact ih1 _ _ _ _ _ _ _ _ _)
   | (with_reducible exact ih2 _ _ _ _ _ _ _ _ _)
   | (with_reducible exact ih3 _ _ _ _ _ _ _ _ _)
   | (with_reducible exact ih4 _ _ _ _ _ _ _ _ _)
   | (with_reducible exact ih5 _ _ _ _ _ _ _ _ _ _)
   | (with_reducible exact ih6 _ _ _ _ _ _ _ _)
   | (with_reducible exact pacelineref05_Has.mono _ _ _)
   | (with_reducible exact pacelineref07_Check.mono _ _)
   | (with_reducible exact pacelineref08_classes.mono _ _ _)
   | (with_reducible exact LeO.refl _)
   | (with_reducible exact LeO.none _)
   | (with_reducible refine LeO.ite ?_ ?_)
   | (with_reducible refine LeO.bind ?_ (fun _ => ?_))
   | exact ih0 _ _ _ _ _ _ _ _ _
   | exact ih1 _ _ _ _ _ _ _ _ _
   | exact ih2 _ _ _ _ _ _ _ _ _
   | exact ih3 _ _ _ _ _ _ _ _ _
   | exact ih4 _ _ _ _ _ _ _ _ _
   | exact ih5 _ _ _ _ _ _ _ _ _ _
   | exact ih6 _ _ _ _ _ _ _ _
   | exact pacelineref05_Has.mono _ _ _
   | exact pacelineref07_Check.mono _ _
   | exact pacelineref08_classes.mono _ _ _
   | exact LeO.none _
   | refine LeO.ite ?_ ?_
   | refine LeO.bind ?_ (fun _ => ?_)
  ·intro y0 y1 y2 y3 y4 y5 y6 y7 y8
   unfold pacelineref08_Fed.l0
   repeat' first
   | (with_reducible exact ih0 _ _ _ _ _ _ _ _ _)
   | (with_reducible exact ih1 _ _ _ _ _ _ _ _ _)
   | (with_reducible exact ih2 _ _ _ _ _ _ _ _ _)
   | (with_reducible exact ih3 _ _ _ _ _ _ _ _ _)
   | (with_reducible exact ih4 _ _ _ _ _ _ _ _ _)
   | (with_reducible exact ih5 _ _ _ _ _ _ _ _ _ _)
   | (with_reducible exact ih6 _ _ _ _ _ _ _ _)
   | (with_reducible exact pacelineref05_Has.mono _ _ _)
   | (with_reducible exact pacelineref07_Check.mono _ _)
   | (with_reducible exact pacelineref08_classes.mono _ _ _)
   | (with_reducible exact LeO.refl _)
   | (with_reducible exact LeO.none _)
   | (with_reducible refine LeO.ite ?_ ?_)
   | (with_reducible refine LeO.bind ?_ (fun _ => ?_))
   | exact ih0 _ _ _ _ _ _ _ _ _
   | exact ih1 _ _ _ _ _ _ _ _ _
   | exact ih2 _ _ _ _ _ _ _ _ _
   | exact ih3 _ _ _ _ _ _ _ _ _
   | exact ih4 _ _ _ _ _ _ _ _ _
   | exact ih5 _ _ _ _ _ _ _ _ _ _
   | exact ih6 _ _ _ _ _ _ _ _
   | exact pacelineref05_Has.mono _ _ _
   | exact pacelineref07_Check.mono _ _
   | exact pacelineref08_classes.mono _ _ _
   | exact LeO.none _
   | refine LeO.ite ?_ ?_
   | refine LeO.bind ?_ (fun _ => ?_)
  ·intro y0 y1 y2 y3 y4 y5 y6 y7 y8 y9
   unfold pacelineref08_Fed.l1
   repeat' first
   | (with_reducible exact ih0 _ _ _ _ _ _ _ _ _)
   | (with_reducible exact ih1 _ _ _ _ _ _ _ _ _)
   | (with_reducible exact ih2 _ _ _ _ _ _ _ _ _)
   | (with_reducible exact ih3 _ _ _ _ _ _ _ _ _)
   | (with_reducible exact ih4 _ _ _ _ _ _ _ _ _)
   | (with_reducible exact ih5 _ _ _ _ _ _ _ _ _ _)
   | (with_reducible exact ih6 _ _ _ _ _ _ _ _)
   | (with_reducible exact pacelineref05_Has.mono _ _ _)
   | (with_reducible exact pacelineref07_Check.mono _ _)
   | (with_reducible exact pacelineref08_classes.mono _ _ _)
   | (with_reducible exact LeO.refl _)
   | (with_reducible exact LeO.none _)
   | (with_reducible refine LeO.ite ?_ ?_)
   | (with_reducible refine LeO.bind ?_ (fun _ => ?_))
   | exact ih0 _ _ _ _ _ _ _ _ _
   | exact ih1 _ _ _ _ _ _ _ _ _
   | exact ih2 _ _ _ _ _ _ _ _ _
   | exact ih3 _ _ _ _ _ _ _ _ _
   | exact ih4 _ _ _ _ _ _ _ _ _
   | exact ih5 _ _ _ _ _ _ _ _ _ _
   | exact ih6 _ _ _ _ _ _ _ _
   | exact pacelineref05_Has.mono _ _ _
   | exact pacelineref07_Check.mono _ _
   | exact pacelineref08_classes.mono _ _ _
   | exact LeO.none _
   | refine LeO.ite ?_ ?_
   | refine LeO.bind ?_ (fun _ => ?_)
  ·intro y0 y1 y2 y3 y4 y5 y6 y7
   unfold pacelineref08_Fed.l2
   repeat' first
   | (with_reducible exact ih0 _ _ _ _ _ _ _ _ _)
   | (with_reducible exact ih1 _ _ _ _ _ _ _ _ _)
   | (with_reducible exact ih2 _ _ _ _ _ _ _ _ _)
   | (with_reducible exact ih3 _ _ _ _ _ _ _ _ _)
   | (with_reducible exact ih4 _ _ _ _ _ _ _ _ _)
   | (with_reducible exact ih5 _ _ _ _ _ _ _ _ _ _)
   | (with_reducible exact ih6 _ _ _ _ _ _ _ _)
   | (with_reducible exact pacelineref05_Has.mono _ _ _)
   | (with_reducible exact pacelineref07_Check.mono _ _)
   | (with_reducible exact pacelineref08_classes.mono _ _ _)
   | (with_reducible exact LeO.refl _)
   | (with_reducible exact LeO.none _)
   | (with_reducible refine LeO.ite ?_ ?_)
   | (with_reducible refine LeO.bind ?_ (fun _ => ?_))
   | exact ih0 _ _ _ _ _ _ _ _ _
   | exact ih1 _ _ _ _ _ _ _ _ _
   | exact ih2 _ _ _ _ _ _ _ _ _
   | exact ih3 _ _ _ _ _ _ _ _ _
   | exact ih4 _ _ _ _ _ _ _ _ _
   | exact ih5 _ _ _ _ _ _ _ _ _ _
   | exact ih6 _ _ _ _ _ _ _ _
   | exact pacelineref05_Has.mono _ _ _
   | exact pacelineref07_Check.mono _ _
   | exact pacelineref08_classes.mono _ _ _
   | exact LeO.none _
   | refine LeO.ite ?_ ?_
   | refine LeO.bind ?_ (fun _ => ?_)
theorem pacelineref08_Fed.mono : ∀ a0 a1 a2 a3 a4 a5 a6 a7 k, LeO (pacelineref08_Fed.f k a0 a1 a2 a3 a4 a5 a6 a7) (pacelineref08_Fed.f (k + 1) a0 a1 a2 a3 a4 a5 a6 a7) := by
 intro a0 a1 a2 a3 a4 a5 a6 a7 k
 obtain ⟨ih0, ih1, ih2, ih3, ih4, ih5, ih6⟩ := pacelineref08_Fed.mono_l k
 unfold pacelineref08_Fed.f
 repeat' first
   | (with_reducible exact ih0 _ _ _ _ _ _ _ _ _)
   | (with_reducible exact ih1 _ _ _ _ _ _ _ _ _)
   | (with_reducible exact ih2 _ _ _ _ _ _ _ _ _)
   | (with_reducible exact ih3 _ _ _ _ _ _ _ _ _)
   | (with_reducible exact ih4 _ _ _ _ _ _ _ _ _)
   | (with_reducible exact ih5 _ _ _ _ _ _ _ _ _ _)
   | (with_reducible exact ih6 _ _ _ _ _ _ _ _)
   | (with_reducible exact pacelineref05_Has.mono _ _ _)
   | (with_reducible exact pacelineref07_Check.mono _ _)
   | (with_reducible exact pacelineref08_classes.mono _ _ _)
   | (with_reducible exact LeO.refl _)
   | (with_reducible exact LeO.none _)
   | (with_reducible refine LeO.ite ?_ ?_)
   | (with_reducible refine LeO.bind ?_ (fun _ => ?_))
   | exact ih0 _ _ _ _ _ _ _ _ _
   | exact ih1 _ _ _ _ _ _ _ _ _
   | exact ih2 _ _ _ _ _ _ _ _ _
   | exact ih3 _ _ _ _ _ _ _ _ _
   | exact ih4 _ _ _ _ _ _ _ _ _
   | exact ih5 _ _ _ _ _ _ _ _ _ _
   | exact ih6 _ _ _ _ _ _ _ _
   | exact pacelineref05_Has.mono _ _ _
   | exact pacelineref07_Check.mono _ _
   | exact pacelineref08_classes.mono _ _ _
   | exact LeO.none _
   | refine LeO.ite ?_ ?_
   | refine LeO.bind ?_ (fun _ => ?_)
set_option maxHeartbeats 8000000 in
set_option maxRecDepth 100000 in
theorem pacelineref08_Fed.calls (k : Nat) (a0_0 : Int) (a0_1 : Int) (a0_2 : Int) (A0_3 : Option Addr) (c0_3 : Nat) (l0_3 : List (S44)) (A0_4 : Option Addr) (c0_4 : Nat) (l0_4 : List Int) (A0_5 : Option Addr) (c0_5 : Nat) (l0_5 : List Int) (A0_6 : Option Addr) (c0_6 : Nat) (l0_6 : List (S55)) (a1 : Int) (r : Int) (w : World) (hr0_3 : Kd.C k44 w A0_3 l0_3.length l0_3) (hc0_3 : l0_3.length ≤ c0_3) (hr0_4 : Kd.C (Kd.int .i64) w A0_4 l0_4.length l0_4) (hc0_4 : l0_4.length ≤ c0_4) (hr0_5 : Kd.C (Kd.int .i64) w A0_5 l0_5.length l0_5) (hc0_5 : l0_5.length ≤ c0_5) (hr0_6 : Kd.C k55 w A0_6 l0_6.length l0_6) (hc0_6 : l0_6.length ≤ c0_6) (h : pacelineref08_Fed.f k a0_0 a0_1 a0_2 l0_3 l0_4 l0_5 l0_6 a1 = some r) :
  Calls Try.prog 28 #[.agg #[.int .i64 a0_0, .int .i64 a0_1, .int .i64 a0_2, .slice A0_3 l0_3.length c0_3, .slice A0_4 l0_4.length c0_4, .slice A0_5 l0_5.length c0_5, .slice A0_6 l0_6.length c0_6], .int .i64 a1] w fun e w' => e = .returned (.int .i64 r) ∧ Below w.heap.size w w' := by
 have hu42 := Try.underlying42
 have hu55 := Try.underlying55
 have HR0_3 := Aside0.mk hr0_3
 have HC0_3 := Aside0.mk hc0_3
 clear hr0_3 hc0_3
 have HR0_4 := Aside0.mk hr0_4
 have HC0_4 := Aside0.mk hc0_4
 clear hr0_4 hc0_4
 have HR0_5 := Aside0.mk hr0_5
 have HC0_5 := Aside0.mk hc0_5
 clear hr0_5 hc0_5
 have HR0_6 := Aside0.mk hr0_6
 have HC0_6 := Aside0.mk hc0_6
 clear hr0_6 hc0_6
 have HB := Aside0.mk (Below.refl w.heap.size w)
 have H : (if a0_0 = 0 then (pacelineref08_Fed.j0 k a1 false a0_0 a0_1 a0_2 l0_3 l0_4 l0_5 l0_6) else (pacelineref08_Fed.j0 k a1 (a0_0 != 1) a0_0 a0_1 a0_2 l0_3 l0_4 l0_5 l0_6)) = some r := h
 clear h
 have HC3 := Aside0.mk H
 clear H
 go_enter Try.func28, Try.ntmps28
 go_upto_region 1 with (first | ((with_reducible refine gate_dst (N := 2) rfl ?_); refine box_event ?hg (N := 2) ?hd (cs := #[.int .i64 a0_0, .int .i64 a0_1, .int .i64 a0_2, .slice A0_3 l0_3.length c0_3, .slice A0_4 l0_4.length c0_4, .slice A0_5 l0_5.length c0_5, .slice A0_6 l0_6.length c0_6]) (t := 42) ?hr ?_; (case hd => rfl); (case hg => rfl); (case hr => first | (go_simp; done) | (go_simp; rfl)); intro gb131 hg w4 hbox hb; have n0_ := Aside0.mk (below_step (by repeat (first | (with_reducible first | exact HB.out | apply below_alloc | apply pw_below_drewN | apply below_drew1) | exact HB.out)) hb); have n1_ := Aside0.mk (hbox); have n2_ := Aside0.mk ((by rw [hg]; exact (below_size (by repeat (first | (with_reducible first | exact HB.out | apply below_alloc | apply pw_below_drewN | apply below_drew1) | exact HB.out))) : w.heap.size ≤ gb131)); have n3_ := Aside0.mk ((by rw [hg]; exact (below_size (by repeat (first | (with_reducible first | exact HB.out | apply below_alloc | apply pw_below_drewN | apply below_drew1) | exact HB.out))) : w.heap.size ≤ gb131)); clear HB; have HB := n0_; have BK131 := n1_; have GW131 := n2_; have GE131 := n3_; clear n0_ n1_ n2_ n3_; clear hb hbox hg))
 (try simp only [Act.put, List.setIfInBounds_toArray, List.set_cons_zero, List.set_cons_succ])
 go_cut [17] (fun v17 wc => ∃ (kq : Nat) (x17_2 : Bool), v17 = .bool x17_2 ∧ Aside0 (pacelineref08_Fed.j0 kq a1 x17_2 a0_0 a0_1 a0_2 l0_3 l0_4 l0_5 l0_6 = some r) ∧ Aside0 (kq ≤ k) ∧ Aside0 (wc.heap[gb131]? = some (.cells #[.int .i64 a0_0, .int .i64 a0_1, .int .i64 a0_2, (.slice A0_3 l0_3.length c0_3), (.slice A0_4 l0_4.length c0_4), (.slice A0_5 l0_5.length c0_5), (.slice A0_6 l0_6.length c0_6)] 42 (0, 0))) ∧ Aside0 (Below w.heap.size w wc))
 case first =>
  have H := HC3.out
  clear HC3
  by_cases c5 : a0_0 = 0
  ·rw [if_pos c5] at H
   have c5b0 : (a0_0 == 0) = true := beq_iff_eq.mpr c5
   have c5b1 : (a0_0 != 0) = false := bne_eq_false_iff_eq.mpr c5
   clear c5
   (first | rw [c5b0] | (simp only [i64_w, i32_w]; rw [c5b0]) | skip)
   have H' := Aside0.mk H
   clear H
   have hcz6_0 : w4.cell? ⟨gb131, 0, none⟩ = some (.int .i64 a0_0) := (blk_cell BK131.out 0).trans rfl
   have hcz6_1 : w4.cell? ⟨gb131, 1, none⟩ = some (.int .i64 a0_1) := (blk_cell BK131.out 1).trans rfl
   have hcz6_2 : w4.cell? ⟨gb131, 2, none⟩ = some (.int .i64 a0_2) := (blk_cell BK131.out 2).trans rfl
   have hcz6_3 : w4.cell? ⟨gb131, 3, none⟩ = some (.slice A0_3 l0_3.length c0_3) := (blk_cell BK131.out 3).trans rfl
   have hcz6_4 : w4.cell? ⟨gb131, 4, none⟩ = some (.slice A0_4 l0_4.length c0_4) := (blk_cell BK131.out 4).trans rfl
   have hcz6_5 : w4.cell? ⟨gb131, 5, none⟩ = some (.slice A0_5 l0_5.length c0_5) := (blk_cell BK131.out 5).trans rfl
   have hcz6_6 : w4.cell? ⟨gb131, 6, none⟩ = some (.slice A0_6 l0_6.length c0_6) := (blk_cell BK131.out 6).trans rfl
   have hfz6_0 := blk_frozen BK131.out 0
   have hfz6_1 := blk_frozen BK131.out 1
   have hfz6_2 := blk_frozen BK131.out 2
   have hfz6_3 := blk_frozen BK131.out 3
   have hfz6_4 := blk_frozen BK131.out 4
   have hfz6_5 := blk_frozen BK131.out 5
   have hfz6_6 := blk_frozen BK131.out 6
   go_wp2
   go_meet
   case rel => exact ⟨_, (false), (by first | rfl | (simp; done) | (simp [*]; done)), H', ⟨by first | omega | exact Nat.le_refl _⟩, ⟨by (with_reducible repeat (first | refine blk_drewN ?_ _ | refine blk_drew ?_ | refine blk_alloc ?_ _)); exact BK131.out⟩, ⟨by repeat (first | (with_reducible first | exact HB.out | apply below_alloc | apply pw_below_drewN | apply below_drew1 | refine below_set ?_ GE131.out) | exact HB.out)⟩⟩
  ·rw [if_neg c5] at H
   have c5b0 : (a0_0 == 0) = false := beq_eq_false_iff_ne.mpr c5
   have c5b1 : (a0_0 != 0) = true := bne_iff_ne.mpr c5
   (first | rw [c5b0] | (simp only [i64_w, i32_w]; rw [c5b0]) | skip)
   have H' := Aside0.mk H
   clear H
   have hcz7_0 : w4.cell? ⟨gb131, 0, none⟩ = some (.int .i64 a0_0) := (blk_cell BK131.out 0).trans rfl
   have hcz7_1 : w4.cell? ⟨gb131, 1, none⟩ = some (.int .i64 a0_1) := (blk_cell BK131.out 1).trans rfl
   have hcz7_2 : w4.cell? ⟨gb131, 2, none⟩ = some (.int .i64 a0_2) := (blk_cell BK131.out 2).trans rfl
   have hcz7_3 : w4.cell? ⟨gb131, 3, none⟩ = some (.slice A0_3 l0_3.length c0_3) := (blk_cell BK131.out 3).trans rfl
   have hcz7_4 : w4.cell? ⟨gb131, 4, none⟩ = some (.slice A0_4 l0_4.length c0_4) := (blk_cell BK131.out 4).trans rfl
   have hcz7_5 : w4.cell? ⟨gb131, 5, none⟩ = some (.slice A0_5 l0_5.length c0_5) := (blk_cell BK131.out 5).trans rfl
   have hcz7_6 : w4.cell? ⟨gb131, 6, none⟩ = some (.slice A0_6 l0_6.length c0_6) := (blk_cell BK131.out 6).trans rfl
   have hfz7_0 := blk_frozen BK131.out 0
   have hfz7_1 := blk_frozen BK131.out 1
   have hfz7_2 := blk_frozen BK131.out 2
   have hfz7_3 := blk_frozen BK131.out 3
   have hfz7_4 := blk_frozen BK131.out 4
   have hfz7_5 := blk_frozen BK131.out 5
   have hfz7_6 := blk_frozen BK131.out 6
   go_wp2
   go_meet
   case rel => exact ⟨_, ((a0_0 != 1)), (by first | rfl | (simp; done) | (simp [*]; done)), H', ⟨by first | omega | exact Nat.le_refl _⟩, ⟨by (with_reducible repeat (first | refine blk_drewN ?_ _ | refine blk_drew ?_ | refine blk_alloc ?_ _)); exact BK131.out⟩, ⟨by repeat (first | (with_reducible first | exact HB.out | apply below_alloc | apply pw_below_drewN | apply below_drew1 | refine below_set ?_ GE131.out) | exact HB.out)⟩⟩
 case rest =>
  clear HC3
  try clear c2
  try clear p2
  try clear c5
  try clear c5b0
  try clear c5b1
  try clear hcz6_0
  try clear hcz6_1
  try clear hcz6_2
  try clear hcz6_3
  try clear hcz6_4
  try clear hcz6_5
  try clear hcz6_6
  try clear hcz7_0
  try clear hcz7_1
  try clear hcz7_2
  try clear hcz7_3
  try clear hcz7_4
  try clear hcz7_5
  try clear hcz7_6
  try clear hfz6_0
  try clear hfz6_1
  try clear hfz6_2
  try clear hfz6_3
  try clear hfz6_4
  try clear hfz6_5
  try clear hfz6_6
  try clear hfz7_0
  try clear hfz7_1
  try clear hfz7_2
  try clear hfz7_3
  try clear hfz7_4
  try clear hfz7_5
  try clear hfz7_6
  obtain ⟨kq, x17_2, rfl, HA, HJ2, BK131, HB⟩ := hcut
  cases kq with
  | zero => exact absurd HA.out (by simp [pacelineref08_Fed.j0])
  | succ kj2 =>
   have H := HA.out
   clear HA
   simp only [pacelineref08_Fed.j0] at H
   by_cases c8 : x17_2 = true
   ·subst c8
    have H1 : (some 1) = some r := by rw [if_pos rfl] at H; exact H
    clear H
    have H := H1
    clear H1
    obtain rfl := Option.some.inj H
    go_wp2
    go_ret
    exact ⟨by first | rfl | (simp [errW_none, errW_some] <;> rfl) | (simp [*, errW_none, errW_some] <;> rfl), by repeat (first | (with_reducible first | exact HB.out | apply below_alloc | apply pw_below_drewN | apply below_drew1 | refine below_set ?_ GE131.out) | exact HB.out)⟩
   ·replace c8 := Bool.eq_false_iff.mpr c8
    subst c8
    have H1 : (if a0_1 < 1 then (pacelineref08_Fed.j1 kj2 a1 true a0_0 a0_1 a0_2 l0_3 l0_4 l0_5 l0_6) else (pacelineref08_Fed.j1 kj2 a1 (decide (a0_1 > 1048576)) a0_0 a0_1 a0_2 l0_3 l0_4 l0_5 l0_6)) = some r := by rw [if_neg (show ¬ (false = true) by decide)] at H; exact H
    clear H
    have H := H1
    clear H1
    have HC9 := Aside0.mk H
    clear H
    go_upto_region 3 with (fail)
    go_cut [25] (fun v25 wc => ∃ (kq : Nat) (x25_8 : Bool), v25 = .bool x25_8 ∧ Aside0 (pacelineref08_Fed.j1 kq a1 x25_8 a0_0 a0_1 a0_2 l0_3 l0_4 l0_5 l0_6 = some r) ∧ Aside0 (kq ≤ kj2) ∧ Aside0 (wc.heap[gb131]? = some (.cells #[.int .i64 a0_0, .int .i64 a0_1, .int .i64 a0_2, (.slice A0_3 l0_3.length c0_3), (.slice A0_4 l0_4.length c0_4), (.slice A0_5 l0_5.length c0_5), (.slice A0_6 l0_6.length c0_6)] 42 (0, 0))) ∧ Aside0 (Below w.heap.size w wc))
    case first =>
     have H := HC9.out
     clear HC9
     by_cases c10 : a0_1 < 1
     ·rw [if_pos c10] at H
      have c10b0 : decide (a0_1 < 1) = true := decide_eq_true c10
      clear c10
      (first | rw [c10b0] | (simp only [i64_w, i32_w]; rw [c10b0]) | skip)
      have H' := Aside0.mk H
      clear H
      have hcz11_0 : wc.cell? ⟨gb131, 0, none⟩ = some (.int .i64 a0_0) := (blk_cell BK131.out 0).trans rfl
      have hcz11_1 : wc.cell? ⟨gb131, 1, none⟩ = some (.int .i64 a0_1) := (blk_cell BK131.out 1).trans rfl
      have hcz11_2 : wc.cell? ⟨gb131, 2, none⟩ = some (.int .i64 a0_2) := (blk_cell BK131.out 2).trans rfl
      have hcz11_3 : wc.cell? ⟨gb131, 3, none⟩ = some (.slice A0_3 l0_3.length c0_3) := (blk_cell BK131.out 3).trans rfl
      have hcz11_4 : wc.cell? ⟨gb131, 4, none⟩ = some (.slice A0_4 l0_4.length c0_4) := (blk_cell BK131.out 4).trans rfl
      have hcz11_5 : wc.cell? ⟨gb131, 5, none⟩ = some (.slice A0_5 l0_5.length c0_5) := (blk_cell BK131.out 5).trans rfl
      have hcz11_6 : wc.cell? ⟨gb131, 6, none⟩ = some (.slice A0_6 l0_6.length c0_6) := (blk_cell BK131.out 6).trans rfl
      have hfz11_0 := blk_frozen BK131.out 0
      have hfz11_1 := blk_frozen BK131.out 1
      have hfz11_2 := blk_frozen BK131.out 2
      have hfz11_3 := blk_frozen BK131.out 3
      have hfz11_4 := blk_frozen BK131.out 4
      have hfz11_5 := blk_frozen BK131.out 5
      have hfz11_6 := blk_frozen BK131.out 6
      go_wp2
      go_meet
      case rel => exact ⟨_, (true), (by first | rfl | (simp; done) | (simp [*]; done)), H', ⟨by have := HJ2.out; first | omega | exact Nat.le_refl _⟩, ⟨by (with_reducible repeat (first | refine blk_drewN ?_ _ | refine blk_drew ?_ | refine blk_alloc ?_ _)); exact BK131.out⟩, ⟨by repeat (first | (with_reducible first | exact HB.out | apply below_alloc | apply pw_below_drewN | apply below_drew1 | refine below_set ?_ GE131.out) | exact HB.out)⟩⟩
     ·rw [if_neg c10] at H
      have c10b0 : decide (a0_1 < 1) = false := decide_eq_false c10
      clear c10
      (first | rw [c10b0] | (simp only [i64_w, i32_w]; rw [c10b0]) | skip)
      have H' := Aside0.mk H
      clear H
      have hcz12_0 : wc.cell? ⟨gb131, 0, none⟩ = some (.int .i64 a0_0) := (blk_cell BK131.out 0).trans rfl
      have hcz12_1 : wc.cell? ⟨gb131, 1, none⟩ = some (.int .i64 a0_1) := (blk_cell BK131.out 1).trans rfl
      have hcz12_2 : wc.cell? ⟨gb131, 2, none⟩ = some (.int .i64 a0_2) := (blk_cell BK131.out 2).trans rfl
      have hcz12_3 : wc.cell? ⟨gb131, 3, none⟩ = some (.slice A0_3 l0_3.length c0_3) := (blk_cell BK131.out 3).trans rfl
      have hcz12_4 : wc.cell? ⟨gb131, 4, none⟩ = some (.slice A0_4 l0_4.length c0_4) := (blk_cell BK131.out 4).trans rfl
      have hcz12_5 : wc.cell? ⟨gb131, 5, none⟩ = some (.slice A0_5 l0_5.length c0_5) := (blk_cell BK131.out 5).trans rfl
      have hcz12_6 : wc.cell? ⟨gb131, 6, none⟩ = some (.slice A0_6 l0_6.length c0_6) := (blk_cell BK131.out 6).trans rfl
      have hfz12_0 := blk_frozen BK131.out 0
      have hfz12_1 := blk_frozen BK131.out 1
      have hfz12_2 := blk_frozen BK131.out 2
      have hfz12_3 := blk_frozen BK131.out 3
      have hfz12_4 := blk_frozen BK131.out 4
      have hfz12_5 := blk_frozen BK131.out 5
      have hfz12_6 := blk_frozen BK131.out 6
      go_wp2
      go_meet
      case rel => exact ⟨_, (decide (a0_1 > 1048576)), (by first | rfl | (simp; done) | (simp [*]; done)), H', ⟨by have := HJ2.out; first | omega | exact Nat.le_refl _⟩, ⟨by (with_reducible repeat (first | refine blk_drewN ?_ _ | refine blk_drew ?_ | refine blk_alloc ?_ _)); exact BK131.out⟩, ⟨by repeat (first | (with_reducible first | exact HB.out | apply below_alloc | apply pw_below_drewN | apply below_drew1 | refine below_set ?_ GE131.out) | exact HB.out)⟩⟩
    case rest =>
     clear HC9
     try clear c1
     try clear c2
     try clear p2
     try clear c5
     try clear c5b0
     try clear c5b1
     try clear c8
     try clear c10
     try clear c10b0
     try clear hcz11_0
     try clear hcz11_1
     try clear hcz11_2
     try clear hcz11_3
     try clear hcz11_4
     try clear hcz11_5
     try clear hcz11_6
     try clear hcz12_0
     try clear hcz12_1
     try clear hcz12_2
     try clear hcz12_3
     try clear hcz12_4
     try clear hcz12_5
     try clear hcz12_6
     try clear hcz6_0
     try clear hcz6_1
     try clear hcz6_2
     try clear hcz6_3
     try clear hcz6_4
     try clear hcz6_5
     try clear hcz6_6
     try clear hcz7_0
     try clear hcz7_1
     try clear hcz7_2
     try clear hcz7_3
     try clear hcz7_4
     try clear hcz7_5
     try clear hcz7_6
     try clear hfz11_0
     try clear hfz11_1
     try clear hfz11_2
     try clear hfz11_3
     try clear hfz11_4
     try clear hfz11_5
     try clear hfz11_6
     try clear hfz12_0
     try clear hfz12_1
     try clear hfz12_2
     try clear hfz12_3
     try clear hfz12_4
     try clear hfz12_5
     try clear hfz12_6
     try clear hfz6_0
     try clear hfz6_1
     try clear hfz6_2
     try clear hfz6_3
     try clear hfz6_4
     try clear hfz6_5
     try clear hfz6_6
     try clear hfz7_0
     try clear hfz7_1
     try clear hfz7_2
     try clear hfz7_3
     try clear hfz7_4
     try clear hfz7_5
     try clear hfz7_6
     try clear p2
     obtain ⟨kq, x25_8, rfl, HA, HJ8, BK131, HB⟩ := hcut
     cases kq with
     | zero => exact absurd HA.out (by simp [pacelineref08_Fed.j1])
     | succ kj8 =>
      have H := HA.out
      clear HA
      simp only [pacelineref08_Fed.j1] at H
      by_cases c13 : x25_8 = true
      ·subst c13
       have H1 : (some 80) = some r := by rw [if_pos rfl] at H; exact H
       clear H
       have H := H1
       clear H1
       obtain rfl := Option.some.inj H
       go_wp2
       go_ret
       exact ⟨by first | rfl | (simp [errW_none, errW_some] <;> rfl) | (simp [*, errW_none, errW_some] <;> rfl), by repeat (first | (with_reducible first | exact HB.out | apply below_alloc | apply pw_below_drewN | apply below_drew1 | refine below_set ?_ GE131.out) | exact HB.out)⟩
      ·replace c13 := Bool.eq_false_iff.mpr c13
       subst c13
       have H1 : (if a0_2 < 0 then (pacelineref08_Fed.j2 kj8 a1 true a0_0 a0_1 a0_2 l0_3 l0_4 l0_5 l0_6) else (if a0_2 ≥ 8 then (pacelineref08_Fed.j2 kj8 a1 true a0_0 a0_1 a0_2 l0_3 l0_4 l0_5 l0_6) else ((pacelineref07_Check.f kj8 l0_3).bind fun t132 => (pacelineref08_Fed.j2 kj8 a1 (t132 != 0) a0_0 a0_1 a0_2 l0_3 l0_4 l0_5 l0_6)))) = some r := by rw [if_neg (show ¬ (false = true) by decide)] at H; exact H
       clear H
       have H := H1
       clear H1
       have HC14 := Aside0.mk H
       clear H
       go_upto_region 5 with (fail)
       go_cut [39] (fun v39 wc => ∃ (kq : Nat) (x39_13 : Bool), v39 = .bool x39_13 ∧ Aside0 (pacelineref08_Fed.j2 kq a1 x39_13 a0_0 a0_1 a0_2 l0_3 l0_4 l0_5 l0_6 = some r) ∧ Aside0 (kq ≤ kj8) ∧ Aside0 (wc.heap[gb131]? = some (.cells #[.int .i64 a0_0, .int .i64 a0_1, .int .i64 a0_2, (.slice A0_3 l0_3.length c0_3), (.slice A0_4 l0_4.length c0_4), (.slice A0_5 l0_5.length c0_5), (.slice A0_6 l0_6.length c0_6)] 42 (0, 0))) ∧ Aside0 (Below w.heap.size w wc))
       case first =>
        have H := HC14.out
        clear HC14
        by_cases c15 : a0_2 < 0
        ·rw [if_pos c15] at H
         have c15b0 : decide (a0_2 < 0) = true := decide_eq_true c15
         clear c15
         (first | rw [c15b0] | (simp only [i64_w, i32_w]; rw [c15b0]) | skip)
         have H' := Aside0.mk H
         clear H
         have hcz16_0 : wc.cell? ⟨gb131, 0, none⟩ = some (.int .i64 a0_0) := (blk_cell BK131.out 0).trans rfl
         have hcz16_1 : wc.cell? ⟨gb131, 1, none⟩ = some (.int .i64 a0_1) := (blk_cell BK131.out 1).trans rfl
         have hcz16_2 : wc.cell? ⟨gb131, 2, none⟩ = some (.int .i64 a0_2) := (blk_cell BK131.out 2).trans rfl
         have hcz16_3 : wc.cell? ⟨gb131, 3, none⟩ = some (.slice A0_3 l0_3.length c0_3) := (blk_cell BK131.out 3).trans rfl
         have hcz16_4 : wc.cell? ⟨gb131, 4, none⟩ = some (.slice A0_4 l0_4.length c0_4) := (blk_cell BK131.out 4).trans rfl
         have hcz16_5 : wc.cell? ⟨gb131, 5, none⟩ = some (.slice A0_5 l0_5.length c0_5) := (blk_cell BK131.out 5).trans rfl
         have hcz16_6 : wc.cell? ⟨gb131, 6, none⟩ = some (.slice A0_6 l0_6.length c0_6) := (blk_cell BK131.out 6).trans rfl
         have hfz16_0 := blk_frozen BK131.out 0
         have hfz16_1 := blk_frozen BK131.out 1
         have hfz16_2 := blk_frozen BK131.out 2
         have hfz16_3 := blk_frozen BK131.out 3
         have hfz16_4 := blk_frozen BK131.out 4
         have hfz16_5 := blk_frozen BK131.out 5
         have hfz16_6 := blk_frozen BK131.out 6
         go_wp2
         go_meet
         case rel => exact ⟨_, (true), (by first | rfl | (simp; done) | (simp [*]; done)), H', ⟨by have := HJ2.out; have := HJ8.out; first | omega | exact Nat.le_refl _⟩, ⟨by (with_reducible repeat (first | refine blk_drewN ?_ _ | refine blk_drew ?_ | refine blk_alloc ?_ _)); exact BK131.out⟩, ⟨by repeat (first | (with_reducible first | exact HB.out | apply below_alloc | apply pw_below_drewN | apply below_drew1 | refine below_set ?_ GE131.out) | exact HB.out)⟩⟩
        ·rw [if_neg c15] at H
         have c15b0 : decide (a0_2 < 0) = false := decide_eq_false c15
         clear c15
         (first | rw [c15b0] | (simp only [i64_w, i32_w]; rw [c15b0]) | skip)
         by_cases c17 : a0_2 ≥ 8
         ·rw [if_pos c17] at H
          have c17b0 : decide (8 ≤ a0_2) = true := decide_eq_true c17
          clear c17
          have H' := Aside0.mk H
          clear H
          have hcz18_0 : wc.cell? ⟨gb131, 0, none⟩ = some (.int .i64 a0_0) := (blk_cell BK131.out 0).trans rfl
          have hcz18_1 : wc.cell? ⟨gb131, 1, none⟩ = some (.int .i64 a0_1) := (blk_cell BK131.out 1).trans rfl
          have hcz18_2 : wc.cell? ⟨gb131, 2, none⟩ = some (.int .i64 a0_2) := (blk_cell BK131.out 2).trans rfl
          have hcz18_3 : wc.cell? ⟨gb131, 3, none⟩ = some (.slice A0_3 l0_3.length c0_3) := (blk_cell BK131.out 3).trans rfl
          have hcz18_4 : wc.cell? ⟨gb131, 4, none⟩ = some (.slice A0_4 l0_4.length c0_4) := (blk_cell BK131.out 4).trans rfl
          have hcz18_5 : wc.cell? ⟨gb131, 5, none⟩ = some (.slice A0_5 l0_5.length c0_5) := (blk_cell BK131.out 5).trans rfl
          have hcz18_6 : wc.cell? ⟨gb131, 6, none⟩ = some (.slice A0_6 l0_6.length c0_6) := (blk_cell BK131.out 6).trans rfl
          have hfz18_0 := blk_frozen BK131.out 0
          have hfz18_1 := blk_frozen BK131.out 1
          have hfz18_2 := blk_frozen BK131.out 2
          have hfz18_3 := blk_frozen BK131.out 3
          have hfz18_4 := blk_frozen BK131.out 4
          have hfz18_5 := blk_frozen BK131.out 5
          have hfz18_6 := blk_frozen BK131.out 6
          go_wp2
          go_meet
          case rel => exact ⟨_, (true), (by first | rfl | (simp; done) | (simp [*]; done)), H', ⟨by have := HJ2.out; have := HJ8.out; first | omega | exact Nat.le_refl _⟩, ⟨by (with_reducible repeat (first | refine blk_drewN ?_ _ | refine blk_drew ?_ | refine blk_alloc ?_ _)); exact BK131.out⟩, ⟨by repeat (first | (with_reducible first | exact HB.out | apply below_alloc | apply pw_below_drewN | apply below_drew1 | refine below_set ?_ GE131.out) | exact HB.out)⟩⟩
         ·rw [if_neg c17] at H
          have c17b0 : decide (8 ≤ a0_2) = false := decide_eq_false c17
          clear c17
          replace H := Option.bind_eq_some_iff.mp H
          obtain ⟨t132, A190, H⟩ := H
          replace H : (pacelineref08_Fed.j2 kj8 a1 (t132 != 0) a0_0 a0_1 a0_2 l0_3 l0_4 l0_5 l0_6) = some r := H
          have A19 := Aside0.mk A190
          clear A190
          have H' := Aside0.mk H
          clear H
          have hcz20_0 : wc.cell? ⟨gb131, 0, none⟩ = some (.int .i64 a0_0) := (blk_cell BK131.out 0).trans rfl
          have hcz20_1 : wc.cell? ⟨gb131, 1, none⟩ = some (.int .i64 a0_1) := (blk_cell BK131.out 1).trans rfl
          have hcz20_2 : wc.cell? ⟨gb131, 2, none⟩ = some (.int .i64 a0_2) := (blk_cell BK131.out 2).trans rfl
          have hcz20_3 : wc.cell? ⟨gb131, 3, none⟩ = some (.slice A0_3 l0_3.length c0_3) := (blk_cell BK131.out 3).trans rfl
          have hcz20_4 : wc.cell? ⟨gb131, 4, none⟩ = some (.slice A0_4 l0_4.length c0_4) := (blk_cell BK131.out 4).trans rfl
          have hcz20_5 : wc.cell? ⟨gb131, 5, none⟩ = some (.slice A0_5 l0_5.length c0_5) := (blk_cell BK131.out 5).trans rfl
          have hcz20_6 : wc.cell? ⟨gb131, 6, none⟩ = some (.slice A0_6 l0_6.length c0_6) := (blk_cell BK131.out 6).trans rfl
          have hfz20_0 := blk_frozen BK131.out 0
          have hfz20_1 := blk_frozen BK131.out 1
          have hfz20_2 := blk_frozen BK131.out 2
          have hfz20_3 := blk_frozen BK131.out 3
          have hfz20_4 := blk_frozen BK131.out 4
          have hfz20_5 := blk_frozen BK131.out 5
          have hfz20_6 := blk_frozen BK131.out 6
          go_wp2_with (first | (go_at_call 43; (with_reducible refine (pacelineref07_Check.calls kj8 _ _ l0_3 t132 _ ?side1 ?side2 A19.out).mono ?_); (case side1 => repeat (first | exact (Kd.C_below HR0_3.out HB.out) | (with_reducible refine Kd.C_alloc ?_ _) | (with_reducible refine Kd.C_drewN ?_ _) | (with_reducible refine Kd.C_drew ?_))); (case side2 => exact HC0_3.out); rintro e w21 ⟨rfl, hb⟩; have n0_ := Aside0.mk (blk_below (g := gb131) (o := .cells #[.int .i64 a0_0, .int .i64 a0_1, .int .i64 a0_2, .slice A0_3 l0_3.length c0_3, .slice A0_4 l0_4.length c0_4, .slice A0_5 l0_5.length c0_5, .slice A0_6 l0_6.length c0_6] 42 (0, 0)) (by (with_reducible repeat (first | refine blk_drewN ?_ _ | refine blk_drew ?_ | refine blk_alloc ?_ _)); exact BK131.out) hb); have n1_ := Aside0.mk (below_step (by repeat (first | (with_reducible first | exact HB.out | apply below_alloc | apply pw_below_drewN | apply below_drew1 | refine below_set ?_ GE131.out) | exact HB.out)) hb); clear BK131; clear HB; have BK131 := n0_; have HB := n1_; clear n0_ n1_; (try clear hb); (try clear hb2); (try clear hk); (try clear hi)))
          go_meet
          case rel => exact ⟨_, ((t132 != 0)), (by first | rfl | (simp; done) | (simp [*]; done)), H', ⟨by have := HJ2.out; have := HJ8.out; first | omega | exact Nat.le_refl _⟩, ⟨by (with_reducible repeat (first | refine blk_drewN ?_ _ | refine blk_drew ?_ | refine blk_alloc ?_ _)); exact BK131.out⟩, ⟨by repeat (first | (with_reducible first | exact HB.out | apply below_alloc | apply pw_below_drewN | apply below_drew1 | refine below_set ?_ GE131.out) | exact HB.out)⟩⟩
       case rest =>
        clear HC14
        try clear c1
        try clear c2
        try clear p2
        try clear c5
        try clear c5b0
        try clear c5b1
        try clear c8
        try clear c10
        try clear c10b0
        try clear c13
        try clear c15
        try clear c15b0
        try clear c17
        try clear c17b0
        try clear hcz11_0
        try clear hcz11_1
        try clear hcz11_2
        try clear hcz11_3
        try clear hcz11_4
        try clear hcz11_5
        try clear hcz11_6
        try clear hcz12_0
        try clear hcz12_1
        try clear hcz12_2
        try clear hcz12_3
        try clear hcz12_4
        try clear hcz12_5
        try clear hcz12_6
        try clear hcz16_0
        try clear hcz16_1
        try clear hcz16_2
        try clear hcz16_3
        try clear hcz16_4
        try clear hcz16_5
        try clear hcz16_6
        try clear hcz18_0
        try clear hcz18_1
        try clear hcz18_2
        try clear hcz18_3
        try clear hcz18_4
        try clear hcz18_5
        try clear hcz18_6
        try clear hcz20_0
        try clear hcz20_1
        try clear hcz20_2
        try clear hcz20_3
        try clear hcz20_4
        try clear hcz20_5
        try clear hcz20_6
        try clear hcz6_0
        try clear hcz6_1
        try clear hcz6_2
        try clear hcz6_3
        try clear hcz6_4
        try clear hcz6_5
        try clear hcz6_6
        try clear hcz7_0
        try clear hcz7_1
        try clear hcz7_2
        try clear hcz7_3
        try clear hcz7_4
        try clear hcz7_5
        try clear hcz7_6
        try clear hfz11_0
        try clear hfz11_1
        try clear hfz11_2
        try clear hfz11_3
        try clear hfz11_4
        try clear hfz11_5
        try clear hfz11_6
        try clear hfz12_0
        try clear hfz12_1
        try clear hfz12_2
        try clear hfz12_3
        try clear hfz12_4
        try clear hfz12_5
        try clear hfz12_6
        try clear hfz16_0
        try clear hfz16_1
        try clear hfz16_2
        try clear hfz16_3
        try clear hfz16_4
        try clear hfz16_5
        try clear hfz16_6
        try clear hfz18_0
        try clear hfz18_1
        try clear hfz18_2
        try clear hfz18_3
        try clear hfz18_4
        try clear hfz18_5
        try clear hfz18_6
        try clear hfz20_0
        try clear hfz20_1
        try clear hfz20_2
        try clear hfz20_3
        try clear hfz20_4
        try clear hfz20_5
        try clear hfz20_6
        try clear hfz6_0
        try clear hfz6_1
        try clear hfz6_2
        try clear hfz6_3
        try clear hfz6_4
        try clear hfz6_5
        try clear hfz6_6
        try clear hfz7_0
        try clear hfz7_1
        try clear hfz7_2
        try clear hfz7_3
        try clear hfz7_4
        try clear hfz7_5
        try clear hfz7_6
        try clear p2
        obtain ⟨kq, x39_13, rfl, HA, HJ13, BK131, HB⟩ := hcut
        cases kq with
        | zero => exact absurd HA.out (by simp [pacelineref08_Fed.j2])
        | succ kj13 =>
         have H := HA.out
         clear HA
         simp only [pacelineref08_Fed.j2] at H
         by_cases c22 : x39_13 = true
         ·subst c22
          have H1 : (some 70) = some r := by rw [if_pos rfl] at H; exact H
          clear H
          have H := H1
          clear H1
          obtain rfl := Option.some.inj H
          go_wp2
          go_ret
          exact ⟨by first | rfl | (simp [errW_none, errW_some] <;> rfl) | (simp [*, errW_none, errW_some] <;> rfl), by repeat (first | (with_reducible first | exact HB.out | apply below_alloc | apply pw_below_drewN | apply below_drew1 | refine below_set ?_ GE131.out) | exact HB.out)⟩
         ·replace c22 := Bool.eq_false_iff.mpr c22
          subst c22
          have H1 : ((pacelineref08_classes.f kj13 l0_4 a1).bind fun t133 => (if t133 = true then ((pacelineref08_classes.f kj13 l0_5 a1).bind fun t134 => (pacelineref08_Fed.j3 kj13 a1 (!t134) a0_0 a0_1 a0_2 l0_3 l0_4 l0_5 l0_6)) else (pacelineref08_Fed.j3 kj13 a1 true a0_0 a0_1 a0_2 l0_3 l0_4 l0_5 l0_6))) = some r := by rw [if_neg (show ¬ (false = true) by decide)] at H; exact H
          clear H
          have H := H1
          clear H1
          have HC23 := Aside0.mk H
          clear H
          go_upto_region 7 with (fail)
          go_cut [51] (fun v51 wc => ∃ (kq : Nat) (x51_22 : Bool), v51 = .bool x51_22 ∧ Aside0 (pacelineref08_Fed.j3 kq a1 x51_22 a0_0 a0_1 a0_2 l0_3 l0_4 l0_5 l0_6 = some r) ∧ Aside0 (kq ≤ kj13) ∧ Aside0 (wc.heap[gb131]? = some (.cells #[.int .i64 a0_0, .int .i64 a0_1, .int .i64 a0_2, (.slice A0_3 l0_3.length c0_3), (.slice A0_4 l0_4.length c0_4), (.slice A0_5 l0_5.length c0_5), (.slice A0_6 l0_6.length c0_6)] 42 (0, 0))) ∧ Aside0 (Below w.heap.size w wc))
          case first =>
           have H := HC23.out
           clear HC23
           replace H := Option.bind_eq_some_iff.mp H
           obtain ⟨t133, A240, H⟩ := H
           replace H : (if t133 = true then ((pacelineref08_classes.f kj13 l0_5 a1).bind fun t134 => (pacelineref08_Fed.j3 kj13 a1 (!t134) a0_0 a0_1 a0_2 l0_3 l0_4 l0_5 l0_6)) else (pacelineref08_Fed.j3 kj13 a1 true a0_0 a0_1 a0_2 l0_3 l0_4 l0_5 l0_6)) = some r := H
           have A24 := Aside0.mk A240
           clear A240
           by_cases c25 : t133 = true
           ·subst c25
            have H1 : ((pacelineref08_classes.f kj13 l0_5 a1).bind fun t134 => (pacelineref08_Fed.j3 kj13 a1 (!t134) a0_0 a0_1 a0_2 l0_3 l0_4 l0_5 l0_6)) = some r := by rw [if_pos rfl] at H; exact H
            clear H
            have H := H1
            clear H1
            replace H := Option.bind_eq_some_iff.mp H
            obtain ⟨t134, A260, H⟩ := H
            replace H : (pacelineref08_Fed.j3 kj13 a1 (!t134) a0_0 a0_1 a0_2 l0_3 l0_4 l0_5 l0_6) = some r := H
            have A26 := Aside0.mk A260
            clear A260
            have H' := Aside0.mk H
            clear H
            have hcz27_0 : wc.cell? ⟨gb131, 0, none⟩ = some (.int .i64 a0_0) := (blk_cell BK131.out 0).trans rfl
            have hcz27_1 : wc.cell? ⟨gb131, 1, none⟩ = some (.int .i64 a0_1) := (blk_cell BK131.out 1).trans rfl
            have hcz27_2 : wc.cell? ⟨gb131, 2, none⟩ = some (.int .i64 a0_2) := (blk_cell BK131.out 2).trans rfl
            have hcz27_3 : wc.cell? ⟨gb131, 3, none⟩ = some (.slice A0_3 l0_3.length c0_3) := (blk_cell BK131.out 3).trans rfl
            have hcz27_4 : wc.cell? ⟨gb131, 4, none⟩ = some (.slice A0_4 l0_4.length c0_4) := (blk_cell BK131.out 4).trans rfl
            have hcz27_5 : wc.cell? ⟨gb131, 5, none⟩ = some (.slice A0_5 l0_5.length c0_5) := (blk_cell BK131.out 5).trans rfl
            have hcz27_6 : wc.cell? ⟨gb131, 6, none⟩ = some (.slice A0_6 l0_6.length c0_6) := (blk_cell BK131.out 6).trans rfl
            have hfz27_0 := blk_frozen BK131.out 0
            have hfz27_1 := blk_frozen BK131.out 1
            have hfz27_2 := blk_frozen BK131.out 2
            have hfz27_3 := blk_frozen BK131.out 3
            have hfz27_4 := blk_frozen BK131.out 4
            have hfz27_5 := blk_frozen BK131.out 5
            have hfz27_6 := blk_frozen BK131.out 6
            go_wp2_with (first | ((with_reducible refine gate_callee (f := 44) rfl ?_); refine goesL_ (some 43) rfl rfl Try.func44 (by kernel_rfl) rfl #[.slice A0_4 l0_4.length c0_4, .int .i64 a1] rfl (by (try simp only [List.map_toArray, List.map_cons, List.map_nil]); first | done | rfl | (simp only [List.length_drop, List.length_take]; rfl)) ?_; (with_reducible refine (pacelineref08_classes.calls kj13 _ _ l0_4 a1 true _ ?side1 ?side2 A24.out).mono ?_); (case side1 => repeat (first | exact (Kd.C_below HR0_4.out HB.out) | (with_reducible refine Kd.C_alloc ?_ _) | (with_reducible refine Kd.C_drewN ?_ _) | (with_reducible refine Kd.C_drew ?_))); (case side2 => exact HC0_4.out); rintro e w' ⟨rfl, ⟨nd, rfl⟩⟩; refine ⟨_, rfl, ?_⟩) | (go_at_call 44; (with_reducible refine (pacelineref08_classes.calls kj13 _ _ l0_5 a1 t134 _ ?side1 ?side2 A26.out).mono ?_); (case side1 => repeat (first | exact (Kd.C_below HR0_5.out (by repeat (first | (with_reducible first | exact HB.out | apply below_alloc | apply pw_below_drewN | apply below_drew1 | refine below_set ?_ GE131.out) | exact HB.out))) | (with_reducible refine Kd.C_alloc ?_ _) | (with_reducible refine Kd.C_drewN ?_ _) | (with_reducible refine Kd.C_drew ?_))); (case side2 => exact HC0_5.out); rintro e w' ⟨rfl, ⟨nd, rfl⟩⟩))
            go_meet
            case rel => exact ⟨_, (!t134), (by first | rfl | (simp; done) | (simp [*]; done)), H', ⟨by have := HJ2.out; have := HJ8.out; have := HJ13.out; first | omega | exact Nat.le_refl _⟩, ⟨by (with_reducible repeat (first | refine blk_drewN ?_ _ | refine blk_drew ?_ | refine blk_alloc ?_ _)); exact BK131.out⟩, ⟨by repeat (first | (with_reducible first | exact HB.out | apply below_alloc | apply pw_below_drewN | apply below_drew1 | refine below_set ?_ GE131.out) | exact HB.out)⟩⟩
           ·replace c25 := Bool.eq_false_iff.mpr c25
            subst c25
            have H1 : (pacelineref08_Fed.j3 kj13 a1 true a0_0 a0_1 a0_2 l0_3 l0_4 l0_5 l0_6) = some r := by rw [if_neg (show ¬ (false = true) by decide)] at H; exact H
            clear H
            have H := H1
            clear H1
            have H' := Aside0.mk H
            clear H
            have hcz28_0 : wc.cell? ⟨gb131, 0, none⟩ = some (.int .i64 a0_0) := (blk_cell BK131.out 0).trans rfl
            have hcz28_1 : wc.cell? ⟨gb131, 1, none⟩ = some (.int .i64 a0_1) := (blk_cell BK131.out 1).trans rfl
            have hcz28_2 : wc.cell? ⟨gb131, 2, none⟩ = some (.int .i64 a0_2) := (blk_cell BK131.out 2).trans rfl
            have hcz28_3 : wc.cell? ⟨gb131, 3, none⟩ = some (.slice A0_3 l0_3.length c0_3) := (blk_cell BK131.out 3).trans rfl
            have hcz28_4 : wc.cell? ⟨gb131, 4, none⟩ = some (.slice A0_4 l0_4.length c0_4) := (blk_cell BK131.out 4).trans rfl
            have hcz28_5 : wc.cell? ⟨gb131, 5, none⟩ = some (.slice A0_5 l0_5.length c0_5) := (blk_cell BK131.out 5).trans rfl
            have hcz28_6 : wc.cell? ⟨gb131, 6, none⟩ = some (.slice A0_6 l0_6.length c0_6) := (blk_cell BK131.out 6).trans rfl
            have hfz28_0 := blk_frozen BK131.out 0
            have hfz28_1 := blk_frozen BK131.out 1
            have hfz28_2 := blk_frozen BK131.out 2
            have hfz28_3 := blk_frozen BK131.out 3
            have hfz28_4 := blk_frozen BK131.out 4
            have hfz28_5 := blk_frozen BK131.out 5
            have hfz28_6 := blk_frozen BK131.out 6
            go_wp2_with (first | ((with_reducible refine gate_callee (f := 44) rfl ?_); refine goesL_ (some 43) rfl rfl Try.func44 (by kernel_rfl) rfl #[.slice A0_4 l0_4.length c0_4, .int .i64 a1] rfl (by (try simp only [List.map_toArray, List.map_cons, List.map_nil]); first | done | rfl | (simp only [List.length_drop, List.length_take]; rfl)) ?_; (with_reducible refine (pacelineref08_classes.calls kj13 _ _ l0_4 a1 false _ ?side1 ?side2 A24.out).mono ?_); (case side1 => repeat (first | exact (Kd.C_below HR0_4.out HB.out) | (with_reducible refine Kd.C_alloc ?_ _) | (with_reducible refine Kd.C_drewN ?_ _) | (with_reducible refine Kd.C_drew ?_))); (case side2 => exact HC0_4.out); rintro e w' ⟨rfl, ⟨nd, rfl⟩⟩; refine ⟨_, rfl, ?_⟩))
            go_meet
            case rel => exact ⟨_, (true), (by first | rfl | (simp; done) | (simp [*]; done)), H', ⟨by have := HJ2.out; have := HJ8.out; have := HJ13.out; first | omega | exact Nat.le_refl _⟩, ⟨by (with_reducible repeat (first | refine blk_drewN ?_ _ | refine blk_drew ?_ | refine blk_alloc ?_ _)); exact BK131.out⟩, ⟨by repeat (first | (with_reducible first | exact HB.out | apply below_alloc | apply pw_below_drewN | apply below_drew1 | refine below_set ?_ GE131.out) | exact HB.out)⟩⟩
          case rest =>
           clear HC23
           try clear c1
           try clear c2
           try clear p2
           try clear c4
           try clear c5
           try clear c5b0
           try clear c5b1
           try clear c8
           try clear c10
           try clear c10b0
           try clear c13
           try clear c15
           try clear c15b0
           try clear c17
           try clear c17b0
           try clear c22
           try clear c25
           try clear c28
           try clear hcz11_0
           try clear hcz11_1
           try clear hcz11_2
           try clear hcz11_3
           try clear hcz11_4
           try clear hcz11_5
           try clear hcz11_6
           try clear hcz12_0
           try clear hcz12_1
           try clear hcz12_2
           try clear hcz12_3
           try clear hcz12_4
           try clear hcz12_5
           try clear hcz12_6
           try clear hcz16_0
           try clear hcz16_1
           try clear hcz16_2
           try clear hcz16_3
           try clear hcz16_4
           try clear hcz16_5
           try clear hcz16_6
           try clear hcz18_0
           try clear hcz18_1
           try clear hcz18_2
           try clear hcz18_3
           try clear hcz18_4
           try clear hcz18_5
           try clear hcz18_6
           try clear hcz20_0
           try clear hcz20_1
           try clear hcz20_2
           try clear hcz20_3
           try clear hcz20_4
           try clear hcz20_5
           try clear hcz20_6
           try clear hcz27_0
           try clear hcz27_1
           try clear hcz27_2
           try clear hcz27_3
           try clear hcz27_4
           try clear hcz27_5
           try clear hcz27_6
           try clear hcz28_0
           try clear hcz28_1
           try clear hcz28_2
           try clear hcz28_3
           try clear hcz28_4
           try clear hcz28_5
           try clear hcz28_6
           try clear hcz6_0
           try clear hcz6_1
           try clear hcz6_2
           try clear hcz6_3
           try clear hcz6_4
           try clear hcz6_5
           try clear hcz6_6
           try clear hcz7_0
           try clear hcz7_1
           try clear hcz7_2
           try clear hcz7_3
           try clear hcz7_4
           try clear hcz7_5
           try clear hcz7_6
           try clear hfz11_0
           try clear hfz11_1
           try clear hfz11_2
           try clear hfz11_3
           try clear hfz11_4
           try clear hfz11_5
           try clear hfz11_6
           try clear hfz12_0
           try clear hfz12_1
           try clear hfz12_2
           try clear hfz12_3
           try clear hfz12_4
           try clear hfz12_5
           try clear hfz12_6
           try clear hfz16_0
           try clear hfz16_1
           try clear hfz16_2
           try clear hfz16_3
           try clear hfz16_4
           try clear hfz16_5
           try clear hfz16_6
           try clear hfz18_0
           try clear hfz18_1
           try clear hfz18_2
           try clear hfz18_3
           try clear hfz18_4
           try clear hfz18_5
           try clear hfz18_6
           try clear hfz20_0
           try clear hfz20_1
           try clear hfz20_2
           try clear hfz20_3
           try clear hfz20_4
           try clear hfz20_5
           try clear hfz20_6
           try clear hfz27_0
           try clear hfz27_1
           try clear hfz27_2
           try clear hfz27_3
           try clear hfz27_4
           try clear hfz27_5
           try clear hfz27_6
           try clear hfz28_0
           try clear hfz28_1
           try clear hfz28_2
           try clear hfz28_3
           try clear hfz28_4
           try clear hfz28_5
           try clear hfz28_6
           try clear hfz6_0
           try clear hfz6_1
           try clear hfz6_2
           try clear hfz6_3
           try clear hfz6_4
           try clear hfz6_5
           try clear hfz6_6
           try clear hfz7_0
           try clear hfz7_1
           try clear hfz7_2
           try clear hfz7_3
           try clear hfz7_4
           try clear hfz7_5
           try clear hfz7_6
           try clear p2
           obtain ⟨kq, x51_22, rfl, HA, HJ22, BK131, HB⟩ := hcut
           cases kq with
           | zero => exact absurd HA.out (by simp [pacelineref08_Fed.j3])
           | succ kj22 =>
            have H := HA.out
            clear HA
            simp only [pacelineref08_Fed.j3] at H
            by_cases c29 : x51_22 = true
            ·subst c29
             have H1 : (some 81) = some r := by rw [if_pos rfl] at H; exact H
             clear H
             have H := H1
             clear H1
             obtain rfl := Option.some.inj H
             go_wp2
             go_ret
             exact ⟨by first | rfl | (simp [errW_none, errW_some] <;> rfl) | (simp [*, errW_none, errW_some] <;> rfl), by repeat (first | (with_reducible first | exact HB.out | apply below_alloc | apply pw_below_drewN | apply below_drew1 | refine below_set ?_ GE131.out) | exact HB.out)⟩
            ·replace c29 := Bool.eq_false_iff.mpr c29
             subst c29
             have H1 : (pacelineref08_Fed.l0 kj22 a1 0 a0_0 a0_1 a0_2 l0_3 l0_4 l0_5 l0_6) = some r := by rw [if_neg (show ¬ (false = true) by decide)] at H; exact H
             clear H
             have H := H1
             clear H1
             have H' := Aside0.mk H
             clear H
             go_wp2
             go_loopg [5] kj22 (fun kq v5 w' => ∃ (x5_5 : Int), v5 = .int .i64 x5_5 ∧ Aside0 (pacelineref08_Fed.l0 kq a1 x5_5 a0_0 a0_1 a0_2 l0_3 l0_4 l0_5 l0_6 = some r) ∧ Aside0 (kq ≤ kj22) ∧ Aside0 (w'.heap[gb131]? = some (.cells #[.int .i64 a0_0, .int .i64 a0_1, .int .i64 a0_2, (.slice A0_3 l0_3.length c0_3), (.slice A0_4 l0_4.length c0_4), (.slice A0_5 l0_5.length c0_5), (.slice A0_6 l0_6.length c0_6)] 42 (0, 0))) ∧ Aside0 (Below w.heap.size w w'))
             case atStart => exact ⟨(0), (by first | rfl | (simp; done) | (simp [*]; done)), H', ⟨Nat.le_refl _⟩, ⟨by (with_reducible repeat (first | refine blk_drewN ?_ _ | refine blk_drew ?_ | refine blk_alloc ?_ _)); exact BK131.out⟩, ⟨by repeat (first | (with_reducible first | exact HB.out | apply below_alloc | apply pw_below_drewN | apply below_drew1 | refine below_set ?_ GE131.out) | exact HB.out)⟩⟩
             case round =>
              clear H'
              try clear c1
              try clear c2
              try clear p2
              try clear c4
              try clear c5
              try clear c5b0
              try clear c5b1
              try clear c8
              try clear c10
              try clear c10b0
              try clear c13
              try clear c15
              try clear c15b0
              try clear c17
              try clear c17b0
              try clear c22
              try clear c25
              try clear c28
              try clear c29
              try clear hcz11_0
              try clear hcz11_1
              try clear hcz11_2
              try clear hcz11_3
              try clear hcz11_4
              try clear hcz11_5
              try clear hcz11_6
              try clear hcz12_0
              try clear hcz12_1
              try clear hcz12_2
              try clear hcz12_3
              try clear hcz12_4
              try clear hcz12_5
              try clear hcz12_6
              try clear hcz16_0
              try clear hcz16_1
              try clear hcz16_2
              try clear hcz16_3
              try clear hcz16_4
              try clear hcz16_5
              try clear hcz16_6
              try clear hcz18_0
              try clear hcz18_1
              try clear hcz18_2
              try clear hcz18_3
              try clear hcz18_4
              try clear hcz18_5
              try clear hcz18_6
              try clear hcz20_0
              try clear hcz20_1
              try clear hcz20_2
              try clear hcz20_3
              try clear hcz20_4
              try clear hcz20_5
              try clear hcz20_6
              try clear hcz27_0
              try clear hcz27_1
              try clear hcz27_2
              try clear hcz27_3
              try clear hcz27_4
              try clear hcz27_5
              try clear hcz27_6
              try clear hcz28_0
              try clear hcz28_1
              try clear hcz28_2
              try clear hcz28_3
              try clear hcz28_4
              try clear hcz28_5
              try clear hcz28_6
              try clear hcz6_0
              try clear hcz6_1
              try clear hcz6_2
              try clear hcz6_3
              try clear hcz6_4
              try clear hcz6_5
              try clear hcz6_6
              try clear hcz7_0
              try clear hcz7_1
              try clear hcz7_2
              try clear hcz7_3
              try clear hcz7_4
              try clear hcz7_5
              try clear hcz7_6
              try clear hfz11_0
              try clear hfz11_1
              try clear hfz11_2
              try clear hfz11_3
              try clear hfz11_4
              try clear hfz11_5
              try clear hfz11_6
              try clear hfz12_0
              try clear hfz12_1
              try clear hfz12_2
              try clear hfz12_3
              try clear hfz12_4
              try clear hfz12_5
              try clear hfz12_6
              try clear hfz16_0
              try clear hfz16_1
              try clear hfz16_2
              try clear hfz16_3
              try clear hfz16_4
              try clear hfz16_5
              try clear hfz16_6
              try clear hfz18_0
              try clear hfz18_1
              try clear hfz18_2
              try clear hfz18_3
              try clear hfz18_4
              try clear hfz18_5
              try clear hfz18_6
              try clear hfz20_0
              try clear hfz20_1
              try clear hfz20_2
              try clear hfz20_3
              try clear hfz20_4
              try clear hfz20_5
              try clear hfz20_6
              try clear hfz27_0
              try clear hfz27_1
              try clear hfz27_2
              try clear hfz27_3
              try clear hfz27_4
              try clear hfz27_5
              try clear hfz27_6
              try clear hfz28_0
              try clear hfz28_1
              try clear hfz28_2
              try clear hfz28_3
              try clear hfz28_4
              try clear hfz28_5
              try clear hfz28_6
              try clear hfz6_0
              try clear hfz6_1
              try clear hfz6_2
              try clear hfz6_3
              try clear hfz6_4
              try clear hfz6_5
              try clear hfz6_6
              try clear hfz7_0
              try clear hfz7_1
              try clear hfz7_2
              try clear hfz7_3
              try clear hfz7_4
              try clear hfz7_5
              try clear hfz7_6
              try clear p2
              obtain ⟨x5_5, rfl, HA, HK5, BK131, HB⟩ := hrel
              cases gk with
              | zero => exact absurd HA.out (by simp [pacelineref08_Fed.l0])
              | succ k5 =>
               have H := HA.out
               clear HA
               simp only [pacelineref08_Fed.l0] at H
               by_cases c30 : x5_5 < (l0_3.length : Int)
               ·rw [if_pos c30] at H
                have c30b0 : decide (x5_5 < (l0_3.length : Int)) = true := decide_eq_true c30
                clear c30
                by_cases c31 : 0 ≤ x5_5
                ·rw [if_pos c31] at H
                 have c31b0 : decide (0 ≤ x5_5) = true := decide_eq_true c31
                 clear c31
                 by_cases c32 : ((rd_T44 l0_3 x5_5).f1) ≥ a1
                 ·rw [if_pos c32] at H
                  have c32b0 : decide (a1 ≤ ((rd_T44 l0_3 x5_5).f1)) = true := decide_eq_true c32
                  clear c32
                  obtain rfl := Option.some.inj H
                  have hcz33_0 : wr.cell? ⟨gb131, 0, none⟩ = some (.int .i64 a0_0) := (blk_cell BK131.out 0).trans rfl
                  have hcz33_1 : wr.cell? ⟨gb131, 1, none⟩ = some (.int .i64 a0_1) := (blk_cell BK131.out 1).trans rfl
                  have hcz33_2 : wr.cell? ⟨gb131, 2, none⟩ = some (.int .i64 a0_2) := (blk_cell BK131.out 2).trans rfl
                  have hcz33_3 : wr.cell? ⟨gb131, 3, none⟩ = some (.slice A0_3 l0_3.length c0_3) := (blk_cell BK131.out 3).trans rfl
                  have hcz33_4 : wr.cell? ⟨gb131, 4, none⟩ = some (.slice A0_4 l0_4.length c0_4) := (blk_cell BK131.out 4).trans rfl
                  have hcz33_5 : wr.cell? ⟨gb131, 5, none⟩ = some (.slice A0_5 l0_5.length c0_5) := (blk_cell BK131.out 5).trans rfl
                  have hcz33_6 : wr.cell? ⟨gb131, 6, none⟩ = some (.slice A0_6 l0_6.length c0_6) := (blk_cell BK131.out 6).trans rfl
                  have hfz33_0 := blk_frozen BK131.out 0
                  have hfz33_1 := blk_frozen BK131.out 1
                  have hfz33_2 := blk_frozen BK131.out 2
                  have hfz33_3 := blk_frozen BK131.out 3
                  have hfz33_4 := blk_frozen BK131.out 4
                  have hfz33_5 := blk_frozen BK131.out 5
                  have hfz33_6 := blk_frozen BK131.out 6
                  have p135 : 0 ≤ (x5_5 : Int) := of_decide_eq_true (by first | (with_reducible assumption) | assumption)
                  have q135 : x5_5 < (l0_3.length : Int) := of_decide_eq_true (by first | (with_reducible assumption) | assumption)
                  obtain ⟨ad135, A135_3, c135_3, e135, hx135_0, hx135_1, hx135_2, hx135_3, hl135_3, hi135_3⟩ := at_T44 HR0_3.out x5_5 p135 q135
                  cases e135
                  replace hx135_0 := (HB.out.cell (World.block_lt_of_cell? w _ hx135_0)).trans hx135_0
                  replace hx135_1 := (HB.out.cell (World.block_lt_of_cell? w _ hx135_1)).trans hx135_1
                  replace hx135_2 := (HB.out.cell (World.block_lt_of_cell? w _ hx135_2)).trans hx135_2
                  replace hx135_3 := (HB.out.cell (World.block_lt_of_cell? w _ hx135_3)).trans hx135_3
                  have HR135_3 := Aside0.mk hi135_3
                  have HC135_3 := Aside0.mk hl135_3
                  clear hi135_3 hl135_3
                  replace p135 := eq_true p135
                  replace q135 := eq_true q135
                  go_wp2
                  go_ret
                  exact ⟨by first | rfl | (simp [errW_none, errW_some] <;> rfl) | (simp [*, errW_none, errW_some] <;> rfl), by repeat (first | (with_reducible first | exact HB.out | apply below_alloc | apply pw_below_drewN | apply below_drew1 | refine below_set ?_ GE131.out) | exact HB.out)⟩
                 ·rw [if_neg c32] at H
                  have c32b0 : decide (a1 ≤ ((rd_T44 l0_3 x5_5).f1)) = false := decide_eq_false c32
                  clear c32
                  have H' := Aside0.mk H
                  clear H
                  have hcz34_0 : wr.cell? ⟨gb131, 0, none⟩ = some (.int .i64 a0_0) := (blk_cell BK131.out 0).trans rfl
                  have hcz34_1 : wr.cell? ⟨gb131, 1, none⟩ = some (.int .i64 a0_1) := (blk_cell BK131.out 1).trans rfl
                  have hcz34_2 : wr.cell? ⟨gb131, 2, none⟩ = some (.int .i64 a0_2) := (blk_cell BK131.out 2).trans rfl
                  have hcz34_3 : wr.cell? ⟨gb131, 3, none⟩ = some (.slice A0_3 l0_3.length c0_3) := (blk_cell BK131.out 3).trans rfl
                  have hcz34_4 : wr.cell? ⟨gb131, 4, none⟩ = some (.slice A0_4 l0_4.length c0_4) := (blk_cell BK131.out 4).trans rfl
                  have hcz34_5 : wr.cell? ⟨gb131, 5, none⟩ = some (.slice A0_5 l0_5.length c0_5) := (blk_cell BK131.out 5).trans rfl
                  have hcz34_6 : wr.cell? ⟨gb131, 6, none⟩ = some (.slice A0_6 l0_6.length c0_6) := (blk_cell BK131.out 6).trans rfl
                  have hfz34_0 := blk_frozen BK131.out 0
                  have hfz34_1 := blk_frozen BK131.out 1
                  have hfz34_2 := blk_frozen BK131.out 2
                  have hfz34_3 := blk_frozen BK131.out 3
                  have hfz34_4 := blk_frozen BK131.out 4
                  have hfz34_5 := blk_frozen BK131.out 5
                  have hfz34_6 := blk_frozen BK131.out 6
                  have p135 : 0 ≤ (x5_5 : Int) := of_decide_eq_true (by first | (with_reducible assumption) | assumption)
                  have q135 : x5_5 < (l0_3.length : Int) := of_decide_eq_true (by first | (with_reducible assumption) | assumption)
                  obtain ⟨ad135, A135_3, c135_3, e135, hx135_0, hx135_1, hx135_2, hx135_3, hl135_3, hi135_3⟩ := at_T44 HR0_3.out x5_5 p135 q135
                  cases e135
                  replace hx135_0 := (HB.out.cell (World.block_lt_of_cell? w _ hx135_0)).trans hx135_0
                  replace hx135_1 := (HB.out.cell (World.block_lt_of_cell? w _ hx135_1)).trans hx135_1
                  replace hx135_2 := (HB.out.cell (World.block_lt_of_cell? w _ hx135_2)).trans hx135_2
                  replace hx135_3 := (HB.out.cell (World.block_lt_of_cell? w _ hx135_3)).trans hx135_3
                  have HR135_3 := Aside0.mk hi135_3
                  have HC135_3 := Aside0.mk hl135_3
                  clear hi135_3 hl135_3
                  replace p135 := eq_true p135
                  replace q135 := eq_true q135
                  go_wp2
                  go_loopg [6] k5 (fun kq v6 w' => ∃ (x6_6 : Int), v6 = .int .i64 x6_6 ∧ Aside0 (pacelineref08_Fed.l1 kq a1 x5_5 x6_6 a0_0 a0_1 a0_2 l0_3 l0_4 l0_5 l0_6 = some r) ∧ Aside0 (kq ≤ k5) ∧ Aside0 (w'.heap[gb131]? = some (.cells #[.int .i64 a0_0, .int .i64 a0_1, .int .i64 a0_2, (.slice (some ad135) l0_3.length c0_3), (.slice A0_4 l0_4.length c0_4), (.slice A0_5 l0_5.length c0_5), (.slice A0_6 l0_6.length c0_6)] 42 (0, 0))) ∧ Aside0 (Below w.heap.size w w'))
                  case atStart => exact ⟨(0), (by first | rfl | (simp; done) | (simp [*]; done)), H', ⟨Nat.le_refl _⟩, ⟨by (with_reducible repeat (first | refine blk_drewN ?_ _ | refine blk_drew ?_ | refine blk_alloc ?_ _)); exact BK131.out⟩, ⟨by repeat (first | (with_reducible first | exact HB.out | apply below_alloc | apply pw_below_drewN | apply below_drew1 | refine below_set ?_ GE131.out) | exact HB.out)⟩⟩
                  case round =>
                   clear H'
                   try clear c1
                   try clear p1
                   try clear q1
                   try clear hx1
                   try clear c2
                   try clear p2
                   try clear c3
                   try clear c4
                   try clear c5
                   try clear c5b0
                   try clear c5b1
                   try clear c8
                   try clear c10
                   try clear c10b0
                   try clear c13
                   try clear p13
                   try clear q13
                   try clear hx13
                   try clear c15
                   try clear c15b0
                   try clear c17
                   try clear c17b0
                   try clear c22
                   try clear c25
                   try clear c28
                   try clear c29
                   try clear c30
                   try clear c30b0
                   try clear c31
                   try clear c31b0
                   try clear c32
                   try clear c32b0
                   try clear hcz11_0
                   try clear hcz11_1
                   try clear hcz11_2
                   try clear hcz11_3
                   try clear hcz11_4
                   try clear hcz11_5
                   try clear hcz11_6
                   try clear hcz12_0
                   try clear hcz12_1
                   try clear hcz12_2
                   try clear hcz12_3
                   try clear hcz12_4
                   try clear hcz12_5
                   try clear hcz12_6
                   try clear hcz16_0
                   try clear hcz16_1
                   try clear hcz16_2
                   try clear hcz16_3
                   try clear hcz16_4
                   try clear hcz16_5
                   try clear hcz16_6
                   try clear hcz18_0
                   try clear hcz18_1
                   try clear hcz18_2
                   try clear hcz18_3
                   try clear hcz18_4
                   try clear hcz18_5
                   try clear hcz18_6
                   try clear hcz20_0
                   try clear hcz20_1
                   try clear hcz20_2
                   try clear hcz20_3
                   try clear hcz20_4
                   try clear hcz20_5
                   try clear hcz20_6
                   try clear hcz27_0
                   try clear hcz27_1
                   try clear hcz27_2
                   try clear hcz27_3
                   try clear hcz27_4
                   try clear hcz27_5
                   try clear hcz27_6
                   try clear hcz28_0
                   try clear hcz28_1
                   try clear hcz28_2
                   try clear hcz28_3
                   try clear hcz28_4
                   try clear hcz28_5
                   try clear hcz28_6
                   try clear hcz33_0
                   try clear hcz33_1
                   try clear hcz33_2
                   try clear hcz33_3
                   try clear hcz33_4
                   try clear hcz33_5
                   try clear hcz33_6
                   try clear hcz34_0
                   try clear hcz34_1
                   try clear hcz34_2
                   try clear hcz34_3
                   try clear hcz34_4
                   try clear hcz34_5
                   try clear hcz34_6
                   try clear hcz6_0
                   try clear hcz6_1
                   try clear hcz6_2
                   try clear hcz6_3
                   try clear hcz6_4
                   try clear hcz6_5
                   try clear hcz6_6
                   try clear hcz7_0
                   try clear hcz7_1
                   try clear hcz7_2
                   try clear hcz7_3
                   try clear hcz7_4
                   try clear hcz7_5
                   try clear hcz7_6
                   try clear hfz11_0
                   try clear hfz11_1
                   try clear hfz11_2
                   try clear hfz11_3
                   try clear hfz11_4
                   try clear hfz11_5
                   try clear hfz11_6
                   try clear hfz12_0
                   try clear hfz12_1
                   try clear hfz12_2
                   try clear hfz12_3
                   try clear hfz12_4
                   try clear hfz12_5
                   try clear hfz12_6
                   try clear hfz16_0
                   try clear hfz16_1
                   try clear hfz16_2
                   try clear hfz16_3
                   try clear hfz16_4
                   try clear hfz16_5
                   try clear hfz16_6
                   try clear hfz18_0
                   try clear hfz18_1
                   try clear hfz18_2
                   try clear hfz18_3
                   try clear hfz18_4
                   try clear hfz18_5
                   try clear hfz18_6
                   try clear hfz20_0
                   try clear hfz20_1
                   try clear hfz20_2
                   try clear hfz20_3
                   try clear hfz20_4
                   try clear hfz20_5
                   try clear hfz20_6
                   try clear hfz27_0
                   try clear hfz27_1
                   try clear hfz27_2
                   try clear hfz27_3
                   try clear hfz27_4
                   try clear hfz27_5
                   try clear hfz27_6
                   try clear hfz28_0
                   try clear hfz28_1
                   try clear hfz28_2
                   try clear hfz28_3
                   try clear hfz28_4
                   try clear hfz28_5
                   try clear hfz28_6
                   try clear hfz33_0
                   try clear hfz33_1
                   try clear hfz33_2
                   try clear hfz33_3
                   try clear hfz33_4
                   try clear hfz33_5
                   try clear hfz33_6
                   try clear hfz34_0
                   try clear hfz34_1
                   try clear hfz34_2
                   try clear hfz34_3
                   try clear hfz34_4
                   try clear hfz34_5
                   try clear hfz34_6
                   try clear hfz6_0
                   try clear hfz6_1
                   try clear hfz6_2
                   try clear hfz6_3
                   try clear hfz6_4
                   try clear hfz6_5
                   try clear hfz6_6
                   try clear hfz7_0
                   try clear hfz7_1
                   try clear hfz7_2
                   try clear hfz7_3
                   try clear hfz7_4
                   try clear hfz7_5
                   try clear hfz7_6
                   try clear hx135_0
                   try clear hx135_1
                   try clear hx135_2
                   try clear hx135_3
                   try clear p135
                   try clear p2
                   try clear q135
                   obtain ⟨x6_6, rfl, HA, HK6, BK131, HB⟩ := hrel
                   cases gk with
                   | zero => exact absurd HA.out (by simp [pacelineref08_Fed.l1])
                   | succ k6 =>
                    have H := HA.out
                    clear HA
                    simp only [pacelineref08_Fed.l1] at H
                    by_cases c35 : 0 ≤ x5_5
                    ·rw [if_pos c35] at H
                     have c35b0 : decide (0 ≤ x5_5) = true := decide_eq_true c35
                     clear c35
                     by_cases c36 : x5_5 < (l0_3.length : Int)
                     ·rw [if_pos c36] at H
                      have c36b0 : decide (x5_5 < (l0_3.length : Int)) = true := decide_eq_true c36
                      clear c36
                      by_cases c37 : x6_6 < (((rd_T44 l0_3 x5_5).f3).length : Int)
                      ·rw [if_pos c37] at H
                       have c37b0 : decide (x6_6 < (((rd_T44 l0_3 x5_5).f3).length : Int)) = true := decide_eq_true c37
                       clear c37
                       by_cases c38 : 0 ≤ x6_6
                       ·rw [if_pos c38] at H
                        have c38b0 : decide (0 ≤ x6_6) = true := decide_eq_true c38
                        clear c38
                        replace H := Option.bind_eq_some_iff.mp H
                        obtain ⟨t140, A390, H⟩ := H
                        replace H : (if t140 = true then (if ((rd_T55 ((rd_T44 l0_3 x5_5).f3) x6_6).f1) < a0_1 then (some 80) else (pacelineref08_Fed.l1 k6 a1 x5_5 (wrap64 (x6_6 + 1)) a0_0 a0_1 a0_2 l0_3 l0_4 l0_5 l0_6)) else (some 81)) = some r := H
                        have A39 := Aside0.mk A390
                        clear A390
                        by_cases c40 : t140 = true
                        ·subst c40
                         have H1 : (if ((rd_T55 ((rd_T44 l0_3 x5_5).f3) x6_6).f1) < a0_1 then (some 80) else (pacelineref08_Fed.l1 k6 a1 x5_5 (wrap64 (x6_6 + 1)) a0_0 a0_1 a0_2 l0_3 l0_4 l0_5 l0_6)) = some r := by rw [if_pos rfl] at H; exact H
                         clear H
                         have H := H1
                         clear H1
                         by_cases c41 : ((rd_T55 ((rd_T44 l0_3 x5_5).f3) x6_6).f1) < a0_1
                         ·rw [if_pos c41] at H
                          have c41b0 : decide (((rd_T55 ((rd_T44 l0_3 x5_5).f3) x6_6).f1) < a0_1) = true := decide_eq_true c41
                          clear c41
                          obtain rfl := Option.some.inj H
                          have hcz42_0 : wr.cell? ⟨gb131, 0, none⟩ = some (.int .i64 a0_0) := (blk_cell BK131.out 0).trans rfl
                          have hcz42_1 : wr.cell? ⟨gb131, 1, none⟩ = some (.int .i64 a0_1) := (blk_cell BK131.out 1).trans rfl
                          have hcz42_2 : wr.cell? ⟨gb131, 2, none⟩ = some (.int .i64 a0_2) := (blk_cell BK131.out 2).trans rfl
                          have hcz42_3 : wr.cell? ⟨gb131, 3, none⟩ = some (.slice (some ad135) l0_3.length c0_3) := (blk_cell BK131.out 3).trans rfl
                          have hcz42_4 : wr.cell? ⟨gb131, 4, none⟩ = some (.slice A0_4 l0_4.length c0_4) := (blk_cell BK131.out 4).trans rfl
                          have hcz42_5 : wr.cell? ⟨gb131, 5, none⟩ = some (.slice A0_5 l0_5.length c0_5) := (blk_cell BK131.out 5).trans rfl
                          have hcz42_6 : wr.cell? ⟨gb131, 6, none⟩ = some (.slice A0_6 l0_6.length c0_6) := (blk_cell BK131.out 6).trans rfl
                          have hfz42_0 := blk_frozen BK131.out 0
                          have hfz42_1 := blk_frozen BK131.out 1
                          have hfz42_2 := blk_frozen BK131.out 2
                          have hfz42_3 := blk_frozen BK131.out 3
                          have hfz42_4 := blk_frozen BK131.out 4
                          have hfz42_5 := blk_frozen BK131.out 5
                          have hfz42_6 := blk_frozen BK131.out 6
                          have p136 : 0 ≤ (x5_5 : Int) := of_decide_eq_true (by first | (with_reducible assumption) | assumption)
                          have q136 : x5_5 < (l0_3.length : Int) := of_decide_eq_true (by first | (with_reducible assumption) | assumption)
                          obtain ⟨ad136, A136_3, c136_3, e136, hx136_0, hx136_1, hx136_2, hx136_3, hl136_3, hi136_3⟩ := at_T44 HR0_3.out x5_5 p136 q136
                          obtain rfl : ad135 = ad136 := (by injection e136)
                          replace hx136_0 := (HB.out.cell (World.block_lt_of_cell? w _ hx136_0)).trans hx136_0
                          replace hx136_1 := (HB.out.cell (World.block_lt_of_cell? w _ hx136_1)).trans hx136_1
                          replace hx136_2 := (HB.out.cell (World.block_lt_of_cell? w _ hx136_2)).trans hx136_2
                          replace hx136_3 := (HB.out.cell (World.block_lt_of_cell? w _ hx136_3)).trans hx136_3
                          have HR136_3 := Aside0.mk hi136_3
                          have HC136_3 := Aside0.mk hl136_3
                          clear hi136_3 hl136_3
                          replace p136 := eq_true p136
                          replace q136 := eq_true q136
                          have p137 : 0 ≤ (x5_5 : Int) := of_decide_eq_true (by first | (with_reducible assumption) | assumption)
                          have q137 : x5_5 < (l0_3.length : Int) := of_decide_eq_true (by first | (with_reducible assumption) | assumption)
                          obtain ⟨ad137, A137_3, c137_3, e137, hx137_0, hx137_1, hx137_2, hx137_3, hl137_3, hi137_3⟩ := at_T44 HR0_3.out x5_5 p137 q137
                          obtain rfl : ad135 = ad137 := (by injection e137)
                          replace hx137_0 := (HB.out.cell (World.block_lt_of_cell? w _ hx137_0)).trans hx137_0
                          replace hx137_1 := (HB.out.cell (World.block_lt_of_cell? w _ hx137_1)).trans hx137_1
                          replace hx137_2 := (HB.out.cell (World.block_lt_of_cell? w _ hx137_2)).trans hx137_2
                          replace hx137_3 := (HB.out.cell (World.block_lt_of_cell? w _ hx137_3)).trans hx137_3
                          have HR137_3 := Aside0.mk hi137_3
                          have HC137_3 := Aside0.mk hl137_3
                          clear hi137_3 hl137_3
                          replace p137 := eq_true p137
                          replace q137 := eq_true q137
                          have ea_ := Option.some.inj (hx136_3.symm.trans hx137_3)
                          injection ea_ with ea_ en_ ec_
                          subst ea_
                          subst ec_
                          clear en_
                          have p138 : 0 ≤ (x6_6 : Int) := of_decide_eq_true (by first | (with_reducible assumption) | assumption)
                          have q138 : x6_6 < (((rd_T44 l0_3 x5_5).f3).length : Int) := of_decide_eq_true (by first | (with_reducible assumption) | assumption)
                          obtain ⟨ad138, e138, hx138_0, hx138_1, hx138_2⟩ := at_T55 HR137_3.out x6_6 p138 q138
                          cases e138
                          replace hx138_0 := (HB.out.cell (World.block_lt_of_cell? w _ hx138_0)).trans hx138_0
                          replace hx138_1 := (HB.out.cell (World.block_lt_of_cell? w _ hx138_1)).trans hx138_1
                          replace hx138_2 := (HB.out.cell (World.block_lt_of_cell? w _ hx138_2)).trans hx138_2
                          replace p138 := eq_true p138
                          replace q138 := eq_true q138
                          go_wp2_with (first | ((with_reducible refine gate_dst (N := 7) rfl ?_); refine box_event ?hg (N := 7) ?hd (cs := #[.int .i64 0, .int .i64 0, .int .i64 0]) (t := 55) ?hr ?_; (case hd => rfl); (case hg => rfl); (case hr => first | (go_simp; done) | (go_simp; rfl)); intro gb139 hg w43 hbox hb; have n0_ := Aside0.mk (blk_below (g := gb131) (o := .cells #[.int .i64 a0_0, .int .i64 a0_1, .int .i64 a0_2, .slice (some ad135) l0_3.length c0_3, .slice A0_4 l0_4.length c0_4, .slice A0_5 l0_5.length c0_5, .slice A0_6 l0_6.length c0_6] 42 (0, 0)) (by (with_reducible repeat (first | refine blk_drewN ?_ _ | refine blk_drew ?_ | refine blk_alloc ?_ _)); exact BK131.out) hb); have n1_ := Aside0.mk (below_step (by repeat (first | (with_reducible first | exact HB.out | apply below_alloc | apply pw_below_drewN | apply below_drew1 | refine below_set ?_ GE131.out) | exact HB.out)) hb); have n2_ := Aside0.mk (hbox); have n3_ := Aside0.mk ((by rw [hg]; exact (below_size (by repeat (first | (with_reducible first | exact HB.out | apply below_alloc | apply pw_below_drewN | apply below_drew1 | refine below_set ?_ GE131.out) | exact HB.out))) : w.heap.size ≤ gb139)); have n4_ := Aside0.mk ((by rw [hg]; exact (below_size (by repeat (first | (with_reducible first | exact HB.out | apply below_alloc | apply pw_below_drewN | apply below_drew1 | refine below_set ?_ GE131.out) | exact HB.out))) : w.heap.size ≤ gb139)); have n5_ := Aside0.mk ((by rw [hg]; exact Nat.ne_of_lt (blk_lt (g := gb131) (o := .cells #[.int .i64 a0_0, .int .i64 a0_1, .int .i64 a0_2, .slice (some ad135) l0_3.length c0_3, .slice A0_4 l0_4.length c0_4, .slice A0_5 l0_5.length c0_5, .slice A0_6 l0_6.length c0_6] 42 (0, 0)) (by (with_reducible repeat (first | refine blk_drewN ?_ _ | refine blk_drew ?_ | refine blk_alloc ?_ _)); exact BK131.out)) : gb131 ≠ gb139)); have n6_ := Aside0.mk ((by rw [hg]; exact Nat.ne_of_gt (blk_lt (g := gb131) (o := .cells #[.int .i64 a0_0, .int .i64 a0_1, .int .i64 a0_2, .slice (some ad135) l0_3.length c0_3, .slice A0_4 l0_4.length c0_4, .slice A0_5 l0_5.length c0_5, .slice A0_6 l0_6.length c0_6] 42 (0, 0)) (by (with_reducible repeat (first | refine blk_drewN ?_ _ | refine blk_drew ?_ | refine blk_alloc ?_ _)); exact BK131.out)) : gb139 ≠ gb131)); clear BK131; clear HB; have BK131 := n0_; have HB := n1_; have BK139 := n2_; have GW139 := n3_; have GE139 := n4_; have NB131_139 := n5_; have NB139_131 := n6_; clear n0_ n1_ n2_ n3_ n4_ n5_ n6_; clear hb hbox hg; have hnb44 := NB139_131.out; have hnc44 := NB131_139.out; have hcz45_0 : w43.cell? ⟨gb139, 0, none⟩ = some (.int .i64 0) := (blk_cell BK139.out 0).trans rfl; have hcz45_1 : w43.cell? ⟨gb139, 1, none⟩ = some (.int .i64 0) := (blk_cell BK139.out 1).trans rfl; have hcz45_2 : w43.cell? ⟨gb139, 2, none⟩ = some (.int .i64 0) := (blk_cell BK139.out 2).trans rfl; have hfz45_0 := blk_frozen BK139.out 0; have hfz45_1 := blk_frozen BK139.out 1; have hfz45_2 := blk_frozen BK139.out 2; have hcz46_0 : w43.cell? ⟨gb131, 0, none⟩ = some (.int .i64 a0_0) := (blk_cell BK131.out 0).trans rfl; have hcz46_1 : w43.cell? ⟨gb131, 1, none⟩ = some (.int .i64 a0_1) := (blk_cell BK131.out 1).trans rfl; have hcz46_2 : w43.cell? ⟨gb131, 2, none⟩ = some (.int .i64 a0_2) := (blk_cell BK131.out 2).trans rfl; have hcz46_3 : w43.cell? ⟨gb131, 3, none⟩ = some (.slice (some ad135) l0_3.length c0_3) := (blk_cell BK131.out 3).trans rfl; have hcz46_4 : w43.cell? ⟨gb131, 4, none⟩ = some (.slice A0_4 l0_4.length c0_4) := (blk_cell BK131.out 4).trans rfl; have hcz46_5 : w43.cell? ⟨gb131, 5, none⟩ = some (.slice A0_5 l0_5.length c0_5) := (blk_cell BK131.out 5).trans rfl; have hcz46_6 : w43.cell? ⟨gb131, 6, none⟩ = some (.slice A0_6 l0_6.length c0_6) := (blk_cell BK131.out 6).trans rfl; have hfz46_0 := blk_frozen BK131.out 0; have hfz46_1 := blk_frozen BK131.out 1; have hfz46_2 := blk_frozen BK131.out 2; have hfz46_3 := blk_frozen BK131.out 3; have hfz46_4 := blk_frozen BK131.out 4; have hfz46_5 := blk_frozen BK131.out 5; have hfz46_6 := blk_frozen BK131.out 6) | ((with_reducible refine gate_callee (f := 20) rfl ?_); refine goesL_ (some 91) rfl rfl Try.func20 (by kernel_rfl) rfl #[.slice A0_4 l0_4.length c0_4, .int .i64 ((rd_T55 ((rd_T44 l0_3 x5_5).f3) x6_6).f0)] rfl (by (try simp only [List.map_toArray, List.map_cons, List.map_nil]); first | done | rfl | (simp only [List.length_drop, List.length_take]; rfl)) ?_; (with_reducible refine (pacelineref05_Has.calls k6 _ _ l0_4 ((rd_T55 ((rd_T44 l0_3 x5_5).f3) x6_6).f0) true _ ?side1 ?side2 A39.out).mono ?_); (case side1 => exact Kd.C_below HR0_4.out (by repeat (first | (with_reducible first | exact HB.out | apply below_alloc | apply pw_below_drewN | apply below_drew1 | refine below_set ?_ GE131.out | refine below_set ?_ GE139.out) | exact HB.out))); (case side2 => exact HC0_4.out); rintro e w' ⟨rfl, ⟨nd, rfl⟩⟩; refine ⟨_, rfl, ?_⟩))
                          go_ret
                          exact ⟨by first | rfl | (simp [errW_none, errW_some] <;> rfl) | (simp [*, errW_none, errW_some] <;> rfl), by repeat (first | (with_reducible first | exact HB.out | apply below_alloc | apply pw_below_drewN | apply below_drew1 | refine below_set ?_ GE131.out | refine below_set ?_ GE139.out) | exact HB.out)⟩
                         ·rw [if_neg c41] at H
                          have c41b0 : decide (((rd_T55 ((rd_T44 l0_3 x5_5).f3) x6_6).f1) < a0_1) = false := decide_eq_false c41
                          clear c41
                          have H' := Aside0.mk H
                          clear H
                          have hcz47_0 : wr.cell? ⟨gb131, 0, none⟩ = some (.int .i64 a0_0) := (blk_cell BK131.out 0).trans rfl
                          have hcz47_1 : wr.cell? ⟨gb131, 1, none⟩ = some (.int .i64 a0_1) := (blk_cell BK131.out 1).trans rfl
                          have hcz47_2 : wr.cell? ⟨gb131, 2, none⟩ = some (.int .i64 a0_2) := (blk_cell BK131.out 2).trans rfl
                          have hcz47_3 : wr.cell? ⟨gb131, 3, none⟩ = some (.slice (some ad135) l0_3.length c0_3) := (blk_cell BK131.out 3).trans rfl
                          have hcz47_4 : wr.cell? ⟨gb131, 4, none⟩ = some (.slice A0_4 l0_4.length c0_4) := (blk_cell BK131.out 4).trans rfl
                          have hcz47_5 : wr.cell? ⟨gb131, 5, none⟩ = some (.slice A0_5 l0_5.length c0_5) := (blk_cell BK131.out 5).trans rfl
                          have hcz47_6 : wr.cell? ⟨gb131, 6, none⟩ = some (.slice A0_6 l0_6.length c0_6) := (blk_cell BK131.out 6).trans rfl
                          have hfz47_0 := blk_frozen BK131.out 0
                          have hfz47_1 := blk_frozen BK131.out 1
                          have hfz47_2 := blk_frozen BK131.out 2
                          have hfz47_3 := blk_frozen BK131.out 3
                          have hfz47_4 := blk_frozen BK131.out 4
                          have hfz47_5 := blk_frozen BK131.out 5
                          have hfz47_6 := blk_frozen BK131.out 6
                          have p136 : 0 ≤ (x5_5 : Int) := of_decide_eq_true (by first | (with_reducible assumption) | assumption)
                          have q136 : x5_5 < (l0_3.length : Int) := of_decide_eq_true (by first | (with_reducible assumption) | assumption)
                          obtain ⟨ad136, A136_3, c136_3, e136, hx136_0, hx136_1, hx136_2, hx136_3, hl136_3, hi136_3⟩ := at_T44 HR0_3.out x5_5 p136 q136
                          obtain rfl : ad135 = ad136 := (by injection e136)
                          replace hx136_0 := (HB.out.cell (World.block_lt_of_cell? w _ hx136_0)).trans hx136_0
                          replace hx136_1 := (HB.out.cell (World.block_lt_of_cell? w _ hx136_1)).trans hx136_1
                          replace hx136_2 := (HB.out.cell (World.block_lt_of_cell? w _ hx136_2)).trans hx136_2
                          replace hx136_3 := (HB.out.cell (World.block_lt_of_cell? w _ hx136_3)).trans hx136_3
                          have HR136_3 := Aside0.mk hi136_3
                          have HC136_3 := Aside0.mk hl136_3
                          clear hi136_3 hl136_3
                          replace p136 := eq_true p136
                          replace q136 := eq_true q136
                          have p137 : 0 ≤ (x5_5 : Int) := of_decide_eq_true (by first | (with_reducible assumption) | assumption)
                          have q137 : x5_5 < (l0_3.length : Int) := of_decide_eq_true (by first | (with_reducible assumption) | assumption)
                          obtain ⟨ad137, A137_3, c137_3, e137, hx137_0, hx137_1, hx137_2, hx137_3, hl137_3, hi137_3⟩ := at_T44 HR0_3.out x5_5 p137 q137
                          obtain rfl : ad135 = ad137 := (by injection e137)
                          replace hx137_0 := (HB.out.cell (World.block_lt_of_cell? w _ hx137_0)).trans hx137_0
                          replace hx137_1 := (HB.out.cell (World.block_lt_of_cell? w _ hx137_1)).trans hx137_1
                          replace hx137_2 := (HB.out.cell (World.block_lt_of_cell? w _ hx137_2)).trans hx137_2
                          replace hx137_3 := (HB.out.cell (World.block_lt_of_cell? w _ hx137_3)).trans hx137_3
                          have HR137_3 := Aside0.mk hi137_3
                          have HC137_3 := Aside0.mk hl137_3
                          clear hi137_3 hl137_3
                          replace p137 := eq_true p137
                          replace q137 := eq_true q137
                          have ea_ := Option.some.inj (hx136_3.symm.trans hx137_3)
                          injection ea_ with ea_ en_ ec_
                          subst ea_
                          subst ec_
                          clear en_
                          have p138 : 0 ≤ (x6_6 : Int) := of_decide_eq_true (by first | (with_reducible assumption) | assumption)
                          have q138 : x6_6 < (((rd_T44 l0_3 x5_5).f3).length : Int) := of_decide_eq_true (by first | (with_reducible assumption) | assumption)
                          obtain ⟨ad138, e138, hx138_0, hx138_1, hx138_2⟩ := at_T55 HR137_3.out x6_6 p138 q138
                          cases e138
                          replace hx138_0 := (HB.out.cell (World.block_lt_of_cell? w _ hx138_0)).trans hx138_0
                          replace hx138_1 := (HB.out.cell (World.block_lt_of_cell? w _ hx138_1)).trans hx138_1
                          replace hx138_2 := (HB.out.cell (World.block_lt_of_cell? w _ hx138_2)).trans hx138_2
                          replace p138 := eq_true p138
                          replace q138 := eq_true q138
                          go_wp2_with (first | ((with_reducible refine gate_dst (N := 7) rfl ?_); refine box_event ?hg (N := 7) ?hd (cs := #[.int .i64 0, .int .i64 0, .int .i64 0]) (t := 55) ?hr ?_; (case hd => rfl); (case hg => rfl); (case hr => first | (go_simp; done) | (go_simp; rfl)); intro gb139 hg w48 hbox hb; have n0_ := Aside0.mk (blk_below (g := gb131) (o := .cells #[.int .i64 a0_0, .int .i64 a0_1, .int .i64 a0_2, .slice (some ad135) l0_3.length c0_3, .slice A0_4 l0_4.length c0_4, .slice A0_5 l0_5.length c0_5, .slice A0_6 l0_6.length c0_6] 42 (0, 0)) (by (with_reducible repeat (first | refine blk_drewN ?_ _ | refine blk_drew ?_ | refine blk_alloc ?_ _)); exact BK131.out) hb); have n1_ := Aside0.mk (below_step (by repeat (first | (with_reducible first | exact HB.out | apply below_alloc | apply pw_below_drewN | apply below_drew1 | refine below_set ?_ GE131.out) | exact HB.out)) hb); have n2_ := Aside0.mk (hbox); have n3_ := Aside0.mk ((by rw [hg]; exact (below_size (by repeat (first | (with_reducible first | exact HB.out | apply below_alloc | apply pw_below_drewN | apply below_drew1 | refine below_set ?_ GE131.out) | exact HB.out))) : w.heap.size ≤ gb139)); have n4_ := Aside0.mk ((by rw [hg]; exact (below_size (by repeat (first | (with_reducible first | exact HB.out | apply below_alloc | apply pw_below_drewN | apply below_drew1 | refine below_set ?_ GE131.out) | exact HB.out))) : w.heap.size ≤ gb139)); have n5_ := Aside0.mk ((by rw [hg]; exact Nat.ne_of_lt (blk_lt (g := gb131) (o := .cells #[.int .i64 a0_0, .int .i64 a0_1, .int .i64 a0_2, .slice (some ad135) l0_3.length c0_3, .slice A0_4 l0_4.length c0_4, .slice A0_5 l0_5.length c0_5, .slice A0_6 l0_6.length c0_6] 42 (0, 0)) (by (with_reducible repeat (first | refine blk_drewN ?_ _ | refine blk_drew ?_ | refine blk_alloc ?_ _)); exact BK131.out)) : gb131 ≠ gb139)); have n6_ := Aside0.mk ((by rw [hg]; exact Nat.ne_of_gt (blk_lt (g := gb131) (o := .cells #[.int .i64 a0_0, .int .i64 a0_1, .int .i64 a0_2, .slice (some ad135) l0_3.length c0_3, .slice A0_4 l0_4.length c0_4, .slice A0_5 l0_5.length c0_5, .slice A0_6 l0_6.length c0_6] 42 (0, 0)) (by (with_reducible repeat (first | refine blk_drewN ?_ _ | refine blk_drew ?_ | refine blk_alloc ?_ _)); exact BK131.out)) : gb139 ≠ gb131)); clear BK131; clear HB; have BK131 := n0_; have HB := n1_; have BK139 := n2_; have GW139 := n3_; have GE139 := n4_; have NB131_139 := n5_; have NB139_131 := n6_; clear n0_ n1_ n2_ n3_ n4_ n5_ n6_; clear hb hbox hg; have hnb49 := NB139_131.out; have hnc49 := NB131_139.out; have hcz50_0 : w48.cell? ⟨gb139, 0, none⟩ = some (.int .i64 0) := (blk_cell BK139.out 0).trans rfl; have hcz50_1 : w48.cell? ⟨gb139, 1, none⟩ = some (.int .i64 0) := (blk_cell BK139.out 1).trans rfl; have hcz50_2 : w48.cell? ⟨gb139, 2, none⟩ = some (.int .i64 0) := (blk_cell BK139.out 2).trans rfl; have hfz50_0 := blk_frozen BK139.out 0; have hfz50_1 := blk_frozen BK139.out 1; have hfz50_2 := blk_frozen BK139.out 2; have hcz51_0 : w48.cell? ⟨gb131, 0, none⟩ = some (.int .i64 a0_0) := (blk_cell BK131.out 0).trans rfl; have hcz51_1 : w48.cell? ⟨gb131, 1, none⟩ = some (.int .i64 a0_1) := (blk_cell BK131.out 1).trans rfl; have hcz51_2 : w48.cell? ⟨gb131, 2, none⟩ = some (.int .i64 a0_2) := (blk_cell BK131.out 2).trans rfl; have hcz51_3 : w48.cell? ⟨gb131, 3, none⟩ = some (.slice (some ad135) l0_3.length c0_3) := (blk_cell BK131.out 3).trans rfl; have hcz51_4 : w48.cell? ⟨gb131, 4, none⟩ = some (.slice A0_4 l0_4.length c0_4) := (blk_cell BK131.out 4).trans rfl; have hcz51_5 : w48.cell? ⟨gb131, 5, none⟩ = some (.slice A0_5 l0_5.length c0_5) := (blk_cell BK131.out 5).trans rfl; have hcz51_6 : w48.cell? ⟨gb131, 6, none⟩ = some (.slice A0_6 l0_6.length c0_6) := (blk_cell BK131.out 6).trans rfl; have hfz51_0 := blk_frozen BK131.out 0; have hfz51_1 := blk_frozen BK131.out 1; have hfz51_2 := blk_frozen BK131.out 2; have hfz51_3 := blk_frozen BK131.out 3; have hfz51_4 := blk_frozen BK131.out 4; have hfz51_5 := blk_frozen BK131.out 5; have hfz51_6 := blk_frozen BK131.out 6) | ((with_reducible refine gate_callee (f := 20) rfl ?_); refine goesL_ (some 91) rfl rfl Try.func20 (by kernel_rfl) rfl #[.slice A0_4 l0_4.length c0_4, .int .i64 ((rd_T55 ((rd_T44 l0_3 x5_5).f3) x6_6).f0)] rfl (by (try simp only [List.map_toArray, List.map_cons, List.map_nil]); first | done | rfl | (simp only [List.length_drop, List.length_take]; rfl)) ?_; (with_reducible refine (pacelineref05_Has.calls k6 _ _ l0_4 ((rd_T55 ((rd_T44 l0_3 x5_5).f3) x6_6).f0) true _ ?side1 ?side2 A39.out).mono ?_); (case side1 => exact Kd.C_below HR0_4.out (by repeat (first | (with_reducible first | exact HB.out | apply below_alloc | apply pw_below_drewN | apply below_drew1 | refine below_set ?_ GE131.out | refine below_set ?_ GE139.out) | exact HB.out))); (case side2 => exact HC0_4.out); rintro e w' ⟨rfl, ⟨nd, rfl⟩⟩; refine ⟨_, rfl, ?_⟩))
                          go_roundg k6
                          case measure => have := HJ2.out; have := HJ8.out; have := HJ13.out; have := HJ22.out; have := HK5.out; have := HK6.out; omega
                          case rel => exact ⟨(wrap64 (x6_6 + 1)), (by first | rfl | (simp; done) | (simp [*]; done)), H', ⟨by have := HJ2.out; have := HJ8.out; have := HJ13.out; have := HJ22.out; have := HK5.out; have := HK6.out; omega⟩, ⟨by (with_reducible repeat (first | refine blk_drewN ?_ _ | refine blk_drew ?_ | refine blk_alloc ?_ _)); refine blk_far ?_ NB131_139.out _; (with_reducible repeat (first | refine blk_drewN ?_ _ | refine blk_drew ?_ | refine blk_alloc ?_ _)); refine blk_far ?_ NB131_139.out _; (with_reducible repeat (first | refine blk_drewN ?_ _ | refine blk_drew ?_ | refine blk_alloc ?_ _)); refine blk_far ?_ NB131_139.out _; (with_reducible repeat (first | refine blk_drewN ?_ _ | refine blk_drew ?_ | refine blk_alloc ?_ _)); exact BK131.out⟩, ⟨by repeat (first | (with_reducible first | exact HB.out | apply below_alloc | apply pw_below_drewN | apply below_drew1 | refine below_set ?_ GE131.out | refine below_set ?_ GE139.out) | exact HB.out)⟩⟩
                        ·replace c40 := Bool.eq_false_iff.mpr c40
                         subst c40
                         have H1 : (some 81) = some r := by rw [if_neg (show ¬ (false = true) by decide)] at H; exact H
                         clear H
                         have H := H1
                         clear H1
                         obtain rfl := Option.some.inj H
                         have hcz52_0 : wr.cell? ⟨gb131, 0, none⟩ = some (.int .i64 a0_0) := (blk_cell BK131.out 0).trans rfl
                         have hcz52_1 : wr.cell? ⟨gb131, 1, none⟩ = some (.int .i64 a0_1) := (blk_cell BK131.out 1).trans rfl
                         have hcz52_2 : wr.cell? ⟨gb131, 2, none⟩ = some (.int .i64 a0_2) := (blk_cell BK131.out 2).trans rfl
                         have hcz52_3 : wr.cell? ⟨gb131, 3, none⟩ = some (.slice (some ad135) l0_3.length c0_3) := (blk_cell BK131.out 3).trans rfl
                         have hcz52_4 : wr.cell? ⟨gb131, 4, none⟩ = some (.slice A0_4 l0_4.length c0_4) := (blk_cell BK131.out 4).trans rfl
                         have hcz52_5 : wr.cell? ⟨gb131, 5, none⟩ = some (.slice A0_5 l0_5.length c0_5) := (blk_cell BK131.out 5).trans rfl
                         have hcz52_6 : wr.cell? ⟨gb131, 6, none⟩ = some (.slice A0_6 l0_6.length c0_6) := (blk_cell BK131.out 6).trans rfl
                         have hfz52_0 := blk_frozen BK131.out 0
                         have hfz52_1 := blk_frozen BK131.out 1
                         have hfz52_2 := blk_frozen BK131.out 2
                         have hfz52_3 := blk_frozen BK131.out 3
                         have hfz52_4 := blk_frozen BK131.out 4
                         have hfz52_5 := blk_frozen BK131.out 5
                         have hfz52_6 := blk_frozen BK131.out 6
                         have p136 : 0 ≤ (x5_5 : Int) := of_decide_eq_true (by first | (with_reducible assumption) | assumption)
                         have q136 : x5_5 < (l0_3.length : Int) := of_decide_eq_true (by first | (with_reducible assumption) | assumption)
                         obtain ⟨ad136, A136_3, c136_3, e136, hx136_0, hx136_1, hx136_2, hx136_3, hl136_3, hi136_3⟩ := at_T44 HR0_3.out x5_5 p136 q136
                         obtain rfl : ad135 = ad136 := (by injection e136)
                         replace hx136_0 := (HB.out.cell (World.block_lt_of_cell? w _ hx136_0)).trans hx136_0
                         replace hx136_1 := (HB.out.cell (World.block_lt_of_cell? w _ hx136_1)).trans hx136_1
                         replace hx136_2 := (HB.out.cell (World.block_lt_of_cell? w _ hx136_2)).trans hx136_2
                         replace hx136_3 := (HB.out.cell (World.block_lt_of_cell? w _ hx136_3)).trans hx136_3
                         have HR136_3 := Aside0.mk hi136_3
                         have HC136_3 := Aside0.mk hl136_3
                         clear hi136_3 hl136_3
                         replace p136 := eq_true p136
                         replace q136 := eq_true q136
                         have p137 : 0 ≤ (x5_5 : Int) := of_decide_eq_true (by first | (with_reducible assumption) | assumption)
                         have q137 : x5_5 < (l0_3.length : Int) := of_decide_eq_true (by first | (with_reducible assumption) | assumption)
                         obtain ⟨ad137, A137_3, c137_3, e137, hx137_0, hx137_1, hx137_2, hx137_3, hl137_3, hi137_3⟩ := at_T44 HR0_3.out x5_5 p137 q137
                         obtain rfl : ad135 = ad137 := (by injection e137)
                         replace hx137_0 := (HB.out.cell (World.block_lt_of_cell? w _ hx137_0)).trans hx137_0
                         replace hx137_1 := (HB.out.cell (World.block_lt_of_cell? w _ hx137_1)).trans hx137_1
                         replace hx137_2 := (HB.out.cell (World.block_lt_of_cell? w _ hx137_2)).trans hx137_2
                         replace hx137_3 := (HB.out.cell (World.block_lt_of_cell? w _ hx137_3)).trans hx137_3
                         have HR137_3 := Aside0.mk hi137_3
                         have HC137_3 := Aside0.mk hl137_3
                         clear hi137_3 hl137_3
                         replace p137 := eq_true p137
                         replace q137 := eq_true q137
                         have ea_ := Option.some.inj (hx136_3.symm.trans hx137_3)
                         injection ea_ with ea_ en_ ec_
                         subst ea_
                         subst ec_
                         clear en_
                         have p138 : 0 ≤ (x6_6 : Int) := of_decide_eq_true (by first | (with_reducible assumption) | assumption)
                         have q138 : x6_6 < (((rd_T44 l0_3 x5_5).f3).length : Int) := of_decide_eq_true (by first | (with_reducible assumption) | assumption)
                         obtain ⟨ad138, e138, hx138_0, hx138_1, hx138_2⟩ := at_T55 HR137_3.out x6_6 p138 q138
                         cases e138
                         replace hx138_0 := (HB.out.cell (World.block_lt_of_cell? w _ hx138_0)).trans hx138_0
                         replace hx138_1 := (HB.out.cell (World.block_lt_of_cell? w _ hx138_1)).trans hx138_1
                         replace hx138_2 := (HB.out.cell (World.block_lt_of_cell? w _ hx138_2)).trans hx138_2
                         replace p138 := eq_true p138
                         replace q138 := eq_true q138
                         go_wp2_with (first | ((with_reducible refine gate_dst (N := 7) rfl ?_); refine box_event ?hg (N := 7) ?hd (cs := #[.int .i64 0, .int .i64 0, .int .i64 0]) (t := 55) ?hr ?_; (case hd => rfl); (case hg => rfl); (case hr => first | (go_simp; done) | (go_simp; rfl)); intro gb139 hg w53 hbox hb; have n0_ := Aside0.mk (blk_below (g := gb131) (o := .cells #[.int .i64 a0_0, .int .i64 a0_1, .int .i64 a0_2, .slice (some ad135) l0_3.length c0_3, .slice A0_4 l0_4.length c0_4, .slice A0_5 l0_5.length c0_5, .slice A0_6 l0_6.length c0_6] 42 (0, 0)) (by (with_reducible repeat (first | refine blk_drewN ?_ _ | refine blk_drew ?_ | refine blk_alloc ?_ _)); exact BK131.out) hb); have n1_ := Aside0.mk (below_step (by repeat (first | (with_reducible first | exact HB.out | apply below_alloc | apply pw_below_drewN | apply below_drew1 | refine below_set ?_ GE131.out) | exact HB.out)) hb); have n2_ := Aside0.mk (hbox); have n3_ := Aside0.mk ((by rw [hg]; exact (below_size (by repeat (first | (with_reducible first | exact HB.out | apply below_alloc | apply pw_below_drewN | apply below_drew1 | refine below_set ?_ GE131.out) | exact HB.out))) : w.heap.size ≤ gb139)); have n4_ := Aside0.mk ((by rw [hg]; exact (below_size (by repeat (first | (with_reducible first | exact HB.out | apply below_alloc | apply pw_below_drewN | apply below_drew1 | refine below_set ?_ GE131.out) | exact HB.out))) : w.heap.size ≤ gb139)); have n5_ := Aside0.mk ((by rw [hg]; exact Nat.ne_of_lt (blk_lt (g := gb131) (o := .cells #[.int .i64 a0_0, .int .i64 a0_1, .int .i64 a0_2, .slice (some ad135) l0_3.length c0_3, .slice A0_4 l0_4.length c0_4, .slice A0_5 l0_5.length c0_5, .slice A0_6 l0_6.length c0_6] 42 (0, 0)) (by (with_reducible repeat (first | refine blk_drewN ?_ _ | refine blk_drew ?_ | refine blk_alloc ?_ _)); exact BK131.out)) : gb131 ≠ gb139)); have n6_ := Aside0.mk ((by rw [hg]; exact Nat.ne_of_gt (blk_lt (g := gb131) (o := .cells #[.int .i64 a0_0, .int .i64 a0_1, .int .i64 a0_2, .slice (some ad135) l0_3.length c0_3, .slice A0_4 l0_4.length c0_4, .slice A0_5 l0_5.length c0_5, .slice A0_6 l0_6.length c0_6] 42 (0, 0)) (by (with_reducible repeat (first | refine blk_drewN ?_ _ | refine blk_drew ?_ | refine blk_alloc ?_ _)); exact BK131.out)) : gb139 ≠ gb131)); clear BK131; clear HB; have BK131 := n0_; have HB := n1_; have BK139 := n2_; have GW139 := n3_; have GE139 := n4_; have NB131_139 := n5_; have NB139_131 := n6_; clear n0_ n1_ n2_ n3_ n4_ n5_ n6_; clear hb hbox hg; have hnb54 := NB139_131.out; have hnc54 := NB131_139.out; have hcz55_0 : w53.cell? ⟨gb139, 0, none⟩ = some (.int .i64 0) := (blk_cell BK139.out 0).trans rfl; have hcz55_1 : w53.cell? ⟨gb139, 1, none⟩ = some (.int .i64 0) := (blk_cell BK139.out 1).trans rfl; have hcz55_2 : w53.cell? ⟨gb139, 2, none⟩ = some (.int .i64 0) := (blk_cell BK139.out 2).trans rfl; have hfz55_0 := blk_frozen BK139.out 0; have hfz55_1 := blk_frozen BK139.out 1; have hfz55_2 := blk_frozen BK139.out 2; have hcz56_0 : w53.cell? ⟨gb131, 0, none⟩ = some (.int .i64 a0_0) := (blk_cell BK131.out 0).trans rfl; have hcz56_1 : w53.cell? ⟨gb131, 1, none⟩ = some (.int .i64 a0_1) := (blk_cell BK131.out 1).trans rfl; have hcz56_2 : w53.cell? ⟨gb131, 2, none⟩ = some (.int .i64 a0_2) := (blk_cell BK131.out 2).trans rfl; have hcz56_3 : w53.cell? ⟨gb131, 3, none⟩ = some (.slice (some ad135) l0_3.length c0_3) := (blk_cell BK131.out 3).trans rfl; have hcz56_4 : w53.cell? ⟨gb131, 4, none⟩ = some (.slice A0_4 l0_4.length c0_4) := (blk_cell BK131.out 4).trans rfl; have hcz56_5 : w53.cell? ⟨gb131, 5, none⟩ = some (.slice A0_5 l0_5.length c0_5) := (blk_cell BK131.out 5).trans rfl; have hcz56_6 : w53.cell? ⟨gb131, 6, none⟩ = some (.slice A0_6 l0_6.length c0_6) := (blk_cell BK131.out 6).trans rfl; have hfz56_0 := blk_frozen BK131.out 0; have hfz56_1 := blk_frozen BK131.out 1; have hfz56_2 := blk_frozen BK131.out 2; have hfz56_3 := blk_frozen BK131.out 3; have hfz56_4 := blk_frozen BK131.out 4; have hfz56_5 := blk_frozen BK131.out 5; have hfz56_6 := blk_frozen BK131.out 6) | ((with_reducible refine gate_callee (f := 20) rfl ?_); refine goesL_ (some 91) rfl rfl Try.func20 (by kernel_rfl) rfl #[.slice A0_4 l0_4.length c0_4, .int .i64 ((rd_T55 ((rd_T44 l0_3 x5_5).f3) x6_6).f0)] rfl (by (try simp only [List.map_toArray, List.map_cons, List.map_nil]); first | done | rfl | (simp only [List.length_drop, List.length_take]; rfl)) ?_; (with_reducible refine (pacelineref05_Has.calls k6 _ _ l0_4 ((rd_T55 ((rd_T44 l0_3 x5_5).f3) x6_6).f0) false _ ?side1 ?side2 A39.out).mono ?_); (case side1 => exact Kd.C_below HR0_4.out (by repeat (first | (with_reducible first | exact HB.out | apply below_alloc | apply pw_below_drewN | apply below_drew1 | refine below_set ?_ GE131.out | refine below_set ?_ GE139.out) | exact HB.out))); (case side2 => exact HC0_4.out); rintro e w' ⟨rfl, ⟨nd, rfl⟩⟩; refine ⟨_, rfl, ?_⟩))
                         go_ret
                         exact ⟨by first | rfl | (simp [errW_none, errW_some] <;> rfl) | (simp [*, errW_none, errW_some] <;> rfl), by repeat (first | (with_reducible first | exact HB.out | apply below_alloc | apply pw_below_drewN | apply below_drew1 | refine below_set ?_ GE131.out | refine below_set ?_ GE139.out) | exact HB.out)⟩
                       ·rw [if_neg c38] at H
                        exact absurd H (by simp)
                      ·rw [if_neg c37] at H
                       have c37b0 : decide (x6_6 < (((rd_T44 l0_3 x5_5).f3).length : Int)) = false := decide_eq_false c37
                       clear c37
                       have H' := Aside0.mk H
                       clear H
                       have hcz57_0 : wr.cell? ⟨gb131, 0, none⟩ = some (.int .i64 a0_0) := (blk_cell BK131.out 0).trans rfl
                       have hcz57_1 : wr.cell? ⟨gb131, 1, none⟩ = some (.int .i64 a0_1) := (blk_cell BK131.out 1).trans rfl
                       have hcz57_2 : wr.cell? ⟨gb131, 2, none⟩ = some (.int .i64 a0_2) := (blk_cell BK131.out 2).trans rfl
                       have hcz57_3 : wr.cell? ⟨gb131, 3, none⟩ = some (.slice (some ad135) l0_3.length c0_3) := (blk_cell BK131.out 3).trans rfl
                       have hcz57_4 : wr.cell? ⟨gb131, 4, none⟩ = some (.slice A0_4 l0_4.length c0_4) := (blk_cell BK131.out 4).trans rfl
                       have hcz57_5 : wr.cell? ⟨gb131, 5, none⟩ = some (.slice A0_5 l0_5.length c0_5) := (blk_cell BK131.out 5).trans rfl
                       have hcz57_6 : wr.cell? ⟨gb131, 6, none⟩ = some (.slice A0_6 l0_6.length c0_6) := (blk_cell BK131.out 6).trans rfl
                       have hfz57_0 := blk_frozen BK131.out 0
                       have hfz57_1 := blk_frozen BK131.out 1
                       have hfz57_2 := blk_frozen BK131.out 2
                       have hfz57_3 := blk_frozen BK131.out 3
                       have hfz57_4 := blk_frozen BK131.out 4
                       have hfz57_5 := blk_frozen BK131.out 5
                       have hfz57_6 := blk_frozen BK131.out 6
                       have p136 : 0 ≤ (x5_5 : Int) := of_decide_eq_true (by first | (with_reducible assumption) | assumption)
                       have q136 : x5_5 < (l0_3.length : Int) := of_decide_eq_true (by first | (with_reducible assumption) | assumption)
                       obtain ⟨ad136, A136_3, c136_3, e136, hx136_0, hx136_1, hx136_2, hx136_3, hl136_3, hi136_3⟩ := at_T44 HR0_3.out x5_5 p136 q136
                       obtain rfl : ad135 = ad136 := (by injection e136)
                       replace hx136_0 := (HB.out.cell (World.block_lt_of_cell? w _ hx136_0)).trans hx136_0
                       replace hx136_1 := (HB.out.cell (World.block_lt_of_cell? w _ hx136_1)).trans hx136_1
                       replace hx136_2 := (HB.out.cell (World.block_lt_of_cell? w _ hx136_2)).trans hx136_2
                       replace hx136_3 := (HB.out.cell (World.block_lt_of_cell? w _ hx136_3)).trans hx136_3
                       have HR136_3 := Aside0.mk hi136_3
                       have HC136_3 := Aside0.mk hl136_3
                       clear hi136_3 hl136_3
                       replace p136 := eq_true p136
                       replace q136 := eq_true q136
                       go_wp2
                       go_roundg k6
                       case measure => have := HJ2.out; have := HJ8.out; have := HJ13.out; have := HJ22.out; have := HK5.out; have := HK6.out; omega
                       case rel => exact ⟨(wrap64 (x5_5 + 1)), (by first | rfl | (simp; done) | (simp [*]; done)), H', ⟨by have := HJ2.out; have := HJ8.out; have := HJ13.out; have := HJ22.out; have := HK5.out; have := HK6.out; omega⟩, ⟨by (with_reducible repeat (first | refine blk_drewN ?_ _ | refine blk_drew ?_ | refine blk_alloc ?_ _)); exact BK131.out⟩, ⟨by repeat (first | (with_reducible first | exact HB.out | apply below_alloc | apply pw_below_drewN | apply below_drew1 | refine below_set ?_ GE131.out) | exact HB.out)⟩⟩
                     ·rw [if_neg c36] at H
                      exact absurd H (by simp)
                    ·rw [if_neg c35] at H
                     exact absurd H (by simp)
                ·rw [if_neg c31] at H
                 exact absurd H (by simp)
               ·rw [if_neg c30] at H
                have c30b0 : decide (x5_5 < (l0_3.length : Int)) = false := decide_eq_false c30
                clear c30
                by_cases c58 : (l0_6.length : Int) > 4
                ·rw [if_pos c58] at H
                 have c58b0 : decide (4 < (l0_6.length : Int)) = true := decide_eq_true c58
                 have c58b1 : decide (4 < l0_6.length) = true := decide_eq_true (by omega)
                 clear c58
                 obtain rfl := Option.some.inj H
                 have hcz59_0 : wr.cell? ⟨gb131, 0, none⟩ = some (.int .i64 a0_0) := (blk_cell BK131.out 0).trans rfl
                 have hcz59_1 : wr.cell? ⟨gb131, 1, none⟩ = some (.int .i64 a0_1) := (blk_cell BK131.out 1).trans rfl
                 have hcz59_2 : wr.cell? ⟨gb131, 2, none⟩ = some (.int .i64 a0_2) := (blk_cell BK131.out 2).trans rfl
                 have hcz59_3 : wr.cell? ⟨gb131, 3, none⟩ = some (.slice A0_3 l0_3.length c0_3) := (blk_cell BK131.out 3).trans rfl
                 have hcz59_4 : wr.cell? ⟨gb131, 4, none⟩ = some (.slice A0_4 l0_4.length c0_4) := (blk_cell BK131.out 4).trans rfl
                 have hcz59_5 : wr.cell? ⟨gb131, 5, none⟩ = some (.slice A0_5 l0_5.length c0_5) := (blk_cell BK131.out 5).trans rfl
                 have hcz59_6 : wr.cell? ⟨gb131, 6, none⟩ = some (.slice A0_6 l0_6.length c0_6) := (blk_cell BK131.out 6).trans rfl
                 have hfz59_0 := blk_frozen BK131.out 0
                 have hfz59_1 := blk_frozen BK131.out 1
                 have hfz59_2 := blk_frozen BK131.out 2
                 have hfz59_3 := blk_frozen BK131.out 3
                 have hfz59_4 := blk_frozen BK131.out 4
                 have hfz59_5 := blk_frozen BK131.out 5
                 have hfz59_6 := blk_frozen BK131.out 6
                 go_wp2
                 go_ret
                 exact ⟨by first | rfl | (simp [errW_none, errW_some] <;> rfl) | (simp [*, errW_none, errW_some] <;> rfl), by repeat (first | (with_reducible first | exact HB.out | apply below_alloc | apply pw_below_drewN | apply below_drew1 | refine below_set ?_ GE131.out) | exact HB.out)⟩
                ·rw [if_neg c58] at H
                 have c58b0 : decide (4 < (l0_6.length : Int)) = false := decide_eq_false c58
                 have c58b1 : decide (4 < l0_6.length) = false := decide_eq_false (by omega)
                 clear c58
                 have H' := Aside0.mk H
                 clear H
                 have hcz60_0 : wr.cell? ⟨gb131, 0, none⟩ = some (.int .i64 a0_0) := (blk_cell BK131.out 0).trans rfl
                 have hcz60_1 : wr.cell? ⟨gb131, 1, none⟩ = some (.int .i64 a0_1) := (blk_cell BK131.out 1).trans rfl
                 have hcz60_2 : wr.cell? ⟨gb131, 2, none⟩ = some (.int .i64 a0_2) := (blk_cell BK131.out 2).trans rfl
                 have hcz60_3 : wr.cell? ⟨gb131, 3, none⟩ = some (.slice A0_3 l0_3.length c0_3) := (blk_cell BK131.out 3).trans rfl
                 have hcz60_4 : wr.cell? ⟨gb131, 4, none⟩ = some (.slice A0_4 l0_4.length c0_4) := (blk_cell BK131.out 4).trans rfl
                 have hcz60_5 : wr.cell? ⟨gb131, 5, none⟩ = some (.slice A0_5 l0_5.length c0_5) := (blk_cell BK131.out 5).trans rfl
                 have hcz60_6 : wr.cell? ⟨gb131, 6, none⟩ = some (.slice A0_6 l0_6.length c0_6) := (blk_cell BK131.out 6).trans rfl
                 have hfz60_0 := blk_frozen BK131.out 0
                 have hfz60_1 := blk_frozen BK131.out 1
                 have hfz60_2 := blk_frozen BK131.out 2
                 have hfz60_3 := blk_frozen BK131.out 3
                 have hfz60_4 := blk_frozen BK131.out 4
                 have hfz60_5 := blk_frozen BK131.out 5
                 have hfz60_6 := blk_frozen BK131.out 6
                 go_wp2
                 go_loopg [8] k5 (fun kq v8 w' => ∃ (x8_6 : Int), v8 = .int .i64 x8_6 ∧ Aside0 (pacelineref08_Fed.l2 kq x8_6 a0_0 a0_1 a0_2 l0_3 l0_4 l0_5 l0_6 = some r) ∧ Aside0 (kq ≤ k5) ∧ Aside0 (w'.heap[gb131]? = some (.cells #[.int .i64 a0_0, .int .i64 a0_1, .int .i64 a0_2, (.slice A0_3 l0_3.length c0_3), (.slice A0_4 l0_4.length c0_4), (.slice A0_5 l0_5.length c0_5), (.slice A0_6 l0_6.length c0_6)] 42 (0, 0))) ∧ Aside0 (Below w.heap.size w w'))
                 case atStart => exact ⟨(0), (by first | rfl | (simp; done) | (simp [*]; done)), H', ⟨Nat.le_refl _⟩, ⟨by (with_reducible repeat (first | refine blk_drewN ?_ _ | refine blk_drew ?_ | refine blk_alloc ?_ _)); exact BK131.out⟩, ⟨by repeat (first | (with_reducible first | exact HB.out | apply below_alloc | apply pw_below_drewN | apply below_drew1 | refine below_set ?_ GE131.out) | exact HB.out)⟩⟩
                 case round =>
                  clear H'
                  try clear c1
                  try clear p1
                  try clear q1
                  try clear hx1
                  try clear c2
                  try clear p2
                  try clear c3
                  try clear c4
                  try clear c5
                  try clear c5b0
                  try clear c5b1
                  try clear p6
                  try clear c8
                  try clear c10
                  try clear c10b0
                  try clear c13
                  try clear p13
                  try clear q13
                  try clear hx13
                  try clear c15
                  try clear c15b0
                  try clear c17
                  try clear c17b0
                  try clear c20
                  try clear c22
                  try clear c25
                  try clear c28
                  try clear c29
                  try clear c30
                  try clear c30b0
                  try clear c31
                  try clear c31b0
                  try clear c32
                  try clear c32b0
                  try clear c35
                  try clear c35b0
                  try clear c36
                  try clear c36b0
                  try clear c37
                  try clear c37b0
                  try clear c38
                  try clear c38b0
                  try clear c40
                  try clear c41
                  try clear c41b0
                  try clear c44
                  try clear c49
                  try clear c54
                  try clear c58
                  try clear c58b0
                  try clear c58b1
                  try clear hcz11_0
                  try clear hcz11_1
                  try clear hcz11_2
                  try clear hcz11_3
                  try clear hcz11_4
                  try clear hcz11_5
                  try clear hcz11_6
                  try clear hcz12_0
                  try clear hcz12_1
                  try clear hcz12_2
                  try clear hcz12_3
                  try clear hcz12_4
                  try clear hcz12_5
                  try clear hcz12_6
                  try clear hcz16_0
                  try clear hcz16_1
                  try clear hcz16_2
                  try clear hcz16_3
                  try clear hcz16_4
                  try clear hcz16_5
                  try clear hcz16_6
                  try clear hcz18_0
                  try clear hcz18_1
                  try clear hcz18_2
                  try clear hcz18_3
                  try clear hcz18_4
                  try clear hcz18_5
                  try clear hcz18_6
                  try clear hcz20_0
                  try clear hcz20_1
                  try clear hcz20_2
                  try clear hcz20_3
                  try clear hcz20_4
                  try clear hcz20_5
                  try clear hcz20_6
                  try clear hcz27_0
                  try clear hcz27_1
                  try clear hcz27_2
                  try clear hcz27_3
                  try clear hcz27_4
                  try clear hcz27_5
                  try clear hcz27_6
                  try clear hcz28_0
                  try clear hcz28_1
                  try clear hcz28_2
                  try clear hcz28_3
                  try clear hcz28_4
                  try clear hcz28_5
                  try clear hcz28_6
                  try clear hcz33_0
                  try clear hcz33_1
                  try clear hcz33_2
                  try clear hcz33_3
                  try clear hcz33_4
                  try clear hcz33_5
                  try clear hcz33_6
                  try clear hcz34_0
                  try clear hcz34_1
                  try clear hcz34_2
                  try clear hcz34_3
                  try clear hcz34_4
                  try clear hcz34_5
                  try clear hcz34_6
                  try clear hcz42_0
                  try clear hcz42_1
                  try clear hcz42_2
                  try clear hcz42_3
                  try clear hcz42_4
                  try clear hcz42_5
                  try clear hcz42_6
                  try clear hcz45_0
                  try clear hcz45_1
                  try clear hcz45_2
                  try clear hcz46_0
                  try clear hcz46_1
                  try clear hcz46_2
                  try clear hcz46_3
                  try clear hcz46_4
                  try clear hcz46_5
                  try clear hcz46_6
                  try clear hcz47_0
                  try clear hcz47_1
                  try clear hcz47_2
                  try clear hcz47_3
                  try clear hcz47_4
                  try clear hcz47_5
                  try clear hcz47_6
                  try clear hcz50_0
                  try clear hcz50_1
                  try clear hcz50_2
                  try clear hcz51_0
                  try clear hcz51_1
                  try clear hcz51_2
                  try clear hcz51_3
                  try clear hcz51_4
                  try clear hcz51_5
                  try clear hcz51_6
                  try clear hcz52_0
                  try clear hcz52_1
                  try clear hcz52_2
                  try clear hcz52_3
                  try clear hcz52_4
                  try clear hcz52_5
                  try clear hcz52_6
                  try clear hcz55_0
                  try clear hcz55_1
                  try clear hcz55_2
                  try clear hcz56_0
                  try clear hcz56_1
                  try clear hcz56_2
                  try clear hcz56_3
                  try clear hcz56_4
                  try clear hcz56_5
                  try clear hcz56_6
                  try clear hcz57_0
                  try clear hcz57_1
                  try clear hcz57_2
                  try clear hcz57_3
                  try clear hcz57_4
                  try clear hcz57_5
                  try clear hcz57_6
                  try clear hcz59_0
                  try clear hcz59_1
                  try clear hcz59_2
                  try clear hcz59_3
                  try clear hcz59_4
                  try clear hcz59_5
                  try clear hcz59_6
                  try clear hcz60_0
                  try clear hcz60_1
                  try clear hcz60_2
                  try clear hcz60_3
                  try clear hcz60_4
                  try clear hcz60_5
                  try clear hcz60_6
                  try clear hcz6_0
                  try clear hcz6_1
                  try clear hcz6_2
                  try clear hcz6_3
                  try clear hcz6_4
                  try clear hcz6_5
                  try clear hcz6_6
                  try clear hcz7_0
                  try clear hcz7_1
                  try clear hcz7_2
                  try clear hcz7_3
                  try clear hcz7_4
                  try clear hcz7_5
                  try clear hcz7_6
                  try clear hfz11_0
                  try clear hfz11_1
                  try clear hfz11_2
                  try clear hfz11_3
                  try clear hfz11_4
                  try clear hfz11_5
                  try clear hfz11_6
                  try clear hfz12_0
                  try clear hfz12_1
                  try clear hfz12_2
                  try clear hfz12_3
                  try clear hfz12_4
                  try clear hfz12_5
                  try clear hfz12_6
                  try clear hfz16_0
                  try clear hfz16_1
                  try clear hfz16_2
                  try clear hfz16_3
                  try clear hfz16_4
                  try clear hfz16_5
                  try clear hfz16_6
                  try clear hfz18_0
                  try clear hfz18_1
                  try clear hfz18_2
                  try clear hfz18_3
                  try clear hfz18_4
                  try clear hfz18_5
                  try clear hfz18_6
                  try clear hfz20_0
                  try clear hfz20_1
                  try clear hfz20_2
                  try clear hfz20_3
                  try clear hfz20_4
                  try clear hfz20_5
                  try clear hfz20_6
                  try clear hfz27_0
                  try clear hfz27_1
                  try clear hfz27_2
                  try clear hfz27_3
                  try clear hfz27_4
                  try clear hfz27_5
                  try clear hfz27_6
                  try clear hfz28_0
                  try clear hfz28_1
                  try clear hfz28_2
                  try clear hfz28_3
                  try clear hfz28_4
                  try clear hfz28_5
                  try clear hfz28_6
                  try clear hfz33_0
                  try clear hfz33_1
                  try clear hfz33_2
                  try clear hfz33_3
                  try clear hfz33_4
                  try clear hfz33_5
                  try clear hfz33_6
                  try clear hfz34_0
                  try clear hfz34_1
                  try clear hfz34_2
                  try clear hfz34_3
                  try clear hfz34_4
                  try clear hfz34_5
                  try clear hfz34_6
                  try clear hfz42_0
                  try clear hfz42_1
                  try clear hfz42_2
                  try clear hfz42_3
                  try clear hfz42_4
                  try clear hfz42_5
                  try clear hfz42_6
                  try clear hfz45_0
                  try clear hfz45_1
                  try clear hfz45_2
                  try clear hfz46_0
                  try clear hfz46_1
                  try clear hfz46_2
                  try clear hfz46_3
                  try clear hfz46_4
                  try clear hfz46_5
                  try clear hfz46_6
                  try clear hfz47_0
                  try clear hfz47_1
                  try clear hfz47_2
                  try clear hfz47_3
                  try clear hfz47_4
                  try clear hfz47_5
                  try clear hfz47_6
                  try clear hfz50_0
                  try clear hfz50_1
                  try clear hfz50_2
                  try clear hfz51_0
                  try clear hfz51_1
                  try clear hfz51_2
                  try clear hfz51_3
                  try clear hfz51_4
                  try clear hfz51_5
                  try clear hfz51_6
                  try clear hfz52_0
                  try clear hfz52_1
                  try clear hfz52_2
                  try clear hfz52_3
                  try clear hfz52_4
                  try clear hfz52_5
                  try clear hfz52_6
                  try clear hfz55_0
                  try clear hfz55_1
                  try clear hfz55_2
                  try clear hfz56_0
                  try clear hfz56_1
                  try clear hfz56_2
                  try clear hfz56_3
                  try clear hfz56_4
                  try clear hfz56_5
                  try clear hfz56_6
                  try clear hfz57_0
                  try clear hfz57_1
                  try clear hfz57_2
                  try clear hfz57_3
                  try clear hfz57_4
                  try clear hfz57_5
                  try clear hfz57_6
                  try clear hfz59_0
                  try clear hfz59_1
                  try clear hfz59_2
                  try clear hfz59_3
                  try clear hfz59_4
                  try clear hfz59_5
                  try clear hfz59_6
                  try clear hfz60_0
                  try clear hfz60_1
                  try clear hfz60_2
                  try clear hfz60_3
                  try clear hfz60_4
                  try clear hfz60_5
                  try clear hfz60_6
                  try clear hfz6_0
                  try clear hfz6_1
                  try clear hfz6_2
                  try clear hfz6_3
                  try clear hfz6_4
                  try clear hfz6_5
                  try clear hfz6_6
                  try clear hfz7_0
                  try clear hfz7_1
                  try clear hfz7_2
                  try clear hfz7_3
                  try clear hfz7_4
                  try clear hfz7_5
                  try clear hfz7_6
                  try clear hx135_0
                  try clear hx135_1
                  try clear hx135_2
                  try clear hx135_3
                  try clear hx136_0
                  try clear hx136_1
                  try clear hx136_2
                  try clear hx136_3
                  try clear hx137_0
                  try clear hx137_1
                  try clear hx137_2
                  try clear hx137_3
                  try clear hx138_0
                  try clear hx138_1
                  try clear hx138_2
                  try clear p1
                  try clear p13
                  try clear p135
                  try clear p136
                  try clear p137
                  try clear p138
                  try clear p2
                  try clear q1
                  try clear q13
                  try clear q135
                  try clear q136
                  try clear q137
                  try clear q138
                  obtain ⟨x8_6, rfl, HA, HK6, BK131, HB⟩ := hrel
                  cases gk with
                  | zero => exact absurd HA.out (by simp [pacelineref08_Fed.l2])
                  | succ k6 =>
                   have H := HA.out
                   clear HA
                   simp only [pacelineref08_Fed.l2] at H
                   by_cases c61 : x8_6 < (l0_6.length : Int)
                   ·rw [if_pos c61] at H
                    have c61b0 : decide (x8_6 < (l0_6.length : Int)) = true := decide_eq_true c61
                    clear c61
                    by_cases c62 : 0 ≤ x8_6
                    ·rw [if_pos c62] at H
                     have c62b0 : decide (0 ≤ x8_6) = true := decide_eq_true c62
                     clear c62
                     replace H := Option.bind_eq_some_iff.mp H
                     obtain ⟨t143, A630, H⟩ := H
                     replace H : (if t143 = true then (if ((rd_T55 l0_6 x8_6).f1) < 0 then (some 82) else (if ((rd_T55 l0_6 x8_6).f1) > 1099511627776 then (some 82) else (if ((rd_T55 l0_6 x8_6).f2) < 0 then (some 82) else (if ((rd_T55 l0_6 x8_6).f2) ≥ 1000 then (some 82) else (pacelineref08_Fed.l2 k6 (wrap64 (x8_6 + 1)) a0_0 a0_1 a0_2 l0_3 l0_4 l0_5 l0_6))))) else (some 82)) = some r := H
                     have A63 := Aside0.mk A630
                     clear A630
                     by_cases c64 : t143 = true
                     ·subst c64
                      have H1 : (if ((rd_T55 l0_6 x8_6).f1) < 0 then (some 82) else (if ((rd_T55 l0_6 x8_6).f1) > 1099511627776 then (some 82) else (if ((rd_T55 l0_6 x8_6).f2) < 0 then (some 82) else (if ((rd_T55 l0_6 x8_6).f2) ≥ 1000 then (some 82) else (pacelineref08_Fed.l2 k6 (wrap64 (x8_6 + 1)) a0_0 a0_1 a0_2 l0_3 l0_4 l0_5 l0_6))))) = some r := by rw [if_pos rfl] at H; exact H
                      clear H
                      have H := H1
                      clear H1
                      by_cases c65 : ((rd_T55 l0_6 x8_6).f1) < 0
                      ·rw [if_pos c65] at H
                       have c65b0 : decide (((rd_T55 l0_6 x8_6).f1) < 0) = true := decide_eq_true c65
                       clear c65
                       obtain rfl := Option.some.inj H
                       have hcz66_0 : wr.cell? ⟨gb131, 0, none⟩ = some (.int .i64 a0_0) := (blk_cell BK131.out 0).trans rfl
                       have hcz66_1 : wr.cell? ⟨gb131, 1, none⟩ = some (.int .i64 a0_1) := (blk_cell BK131.out 1).trans rfl
                       have hcz66_2 : wr.cell? ⟨gb131, 2, none⟩ = some (.int .i64 a0_2) := (blk_cell BK131.out 2).trans rfl
                       have hcz66_3 : wr.cell? ⟨gb131, 3, none⟩ = some (.slice A0_3 l0_3.length c0_3) := (blk_cell BK131.out 3).trans rfl
                       have hcz66_4 : wr.cell? ⟨gb131, 4, none⟩ = some (.slice A0_4 l0_4.length c0_4) := (blk_cell BK131.out 4).trans rfl
                       have hcz66_5 : wr.cell? ⟨gb131, 5, none⟩ = some (.slice A0_5 l0_5.length c0_5) := (blk_cell BK131.out 5).trans rfl
                       have hcz66_6 : wr.cell? ⟨gb131, 6, none⟩ = some (.slice A0_6 l0_6.length c0_6) := (blk_cell BK131.out 6).trans rfl
                       have hfz66_0 := blk_frozen BK131.out 0
                       have hfz66_1 := blk_frozen BK131.out 1
                       have hfz66_2 := blk_frozen BK131.out 2
                       have hfz66_3 := blk_frozen BK131.out 3
                       have hfz66_4 := blk_frozen BK131.out 4
                       have hfz66_5 := blk_frozen BK131.out 5
                       have hfz66_6 := blk_frozen BK131.out 6
                       have p141 : 0 ≤ (x8_6 : Int) := of_decide_eq_true (by first | (with_reducible assumption) | assumption)
                       have q141 : x8_6 < (l0_6.length : Int) := of_decide_eq_true (by first | (with_reducible assumption) | assumption)
                       obtain ⟨ad141, e141, hx141_0, hx141_1, hx141_2⟩ := at_T55 HR0_6.out x8_6 p141 q141
                       cases e141
                       replace hx141_0 := (HB.out.cell (World.block_lt_of_cell? w _ hx141_0)).trans hx141_0
                       replace hx141_1 := (HB.out.cell (World.block_lt_of_cell? w _ hx141_1)).trans hx141_1
                       replace hx141_2 := (HB.out.cell (World.block_lt_of_cell? w _ hx141_2)).trans hx141_2
                       replace p141 := eq_true p141
                       replace q141 := eq_true q141
                       go_wp2_with (first | ((with_reducible refine gate_dst (N := 9) rfl ?_); refine box_event ?hg (N := 9) ?hd (cs := #[.int .i64 0, .int .i64 0, .int .i64 0]) (t := 55) ?hr ?_; (case hd => rfl); (case hg => rfl); (case hr => first | (go_simp; done) | (go_simp; rfl)); intro gb142 hg w67 hbox hb; have n0_ := Aside0.mk (blk_below (g := gb131) (o := .cells #[.int .i64 a0_0, .int .i64 a0_1, .int .i64 a0_2, .slice A0_3 l0_3.length c0_3, .slice A0_4 l0_4.length c0_4, .slice A0_5 l0_5.length c0_5, .slice (some ad141) l0_6.length c0_6] 42 (0, 0)) (by (with_reducible repeat (first | refine blk_drewN ?_ _ | refine blk_drew ?_ | refine blk_alloc ?_ _)); exact BK131.out) hb); have n1_ := Aside0.mk (below_step (by repeat (first | (with_reducible first | exact HB.out | apply below_alloc | apply pw_below_drewN | apply below_drew1 | refine below_set ?_ GE131.out) | exact HB.out)) hb); have n2_ := Aside0.mk (hbox); have n3_ := Aside0.mk ((by rw [hg]; exact (below_size (by repeat (first | (with_reducible first | exact HB.out | apply below_alloc | apply pw_below_drewN | apply below_drew1 | refine below_set ?_ GE131.out) | exact HB.out))) : w.heap.size ≤ gb142)); have n4_ := Aside0.mk ((by rw [hg]; exact (below_size (by repeat (first | (with_reducible first | exact HB.out | apply below_alloc | apply pw_below_drewN | apply below_drew1 | refine below_set ?_ GE131.out) | exact HB.out))) : w.heap.size ≤ gb142)); have n5_ := Aside0.mk ((by rw [hg]; exact Nat.ne_of_lt (blk_lt (g := gb131) (o := .cells #[.int .i64 a0_0, .int .i64 a0_1, .int .i64 a0_2, .slice A0_3 l0_3.length c0_3, .slice A0_4 l0_4.length c0_4, .slice A0_5 l0_5.length c0_5, .slice (some ad141) l0_6.length c0_6] 42 (0, 0)) (by (with_reducible repeat (first | refine blk_drewN ?_ _ | refine blk_drew ?_ | refine blk_alloc ?_ _)); exact BK131.out)) : gb131 ≠ gb142)); have n6_ := Aside0.mk ((by rw [hg]; exact Nat.ne_of_gt (blk_lt (g := gb131) (o := .cells #[.int .i64 a0_0, .int .i64 a0_1, .int .i64 a0_2, .slice A0_3 l0_3.length c0_3, .slice A0_4 l0_4.length c0_4, .slice A0_5 l0_5.length c0_5, .slice (some ad141) l0_6.length c0_6] 42 (0, 0)) (by (with_reducible repeat (first | refine blk_drewN ?_ _ | refine blk_drew ?_ | refine blk_alloc ?_ _)); exact BK131.out)) : gb142 ≠ gb131)); clear BK131; clear HB; have BK131 := n0_; have HB := n1_; have BK142 := n2_; have GW142 := n3_; have GE142 := n4_; have NB131_142 := n5_; have NB142_131 := n6_; clear n0_ n1_ n2_ n3_ n4_ n5_ n6_; clear hb hbox hg; have hnb68 := NB142_131.out; have hnc68 := NB131_142.out; have hcz69_0 : w67.cell? ⟨gb142, 0, none⟩ = some (.int .i64 0) := (blk_cell BK142.out 0).trans rfl; have hcz69_1 : w67.cell? ⟨gb142, 1, none⟩ = some (.int .i64 0) := (blk_cell BK142.out 1).trans rfl; have hcz69_2 : w67.cell? ⟨gb142, 2, none⟩ = some (.int .i64 0) := (blk_cell BK142.out 2).trans rfl; have hfz69_0 := blk_frozen BK142.out 0; have hfz69_1 := blk_frozen BK142.out 1; have hfz69_2 := blk_frozen BK142.out 2; have hcz70_0 : w67.cell? ⟨gb131, 0, none⟩ = some (.int .i64 a0_0) := (blk_cell BK131.out 0).trans rfl; have hcz70_1 : w67.cell? ⟨gb131, 1, none⟩ = some (.int .i64 a0_1) := (blk_cell BK131.out 1).trans rfl; have hcz70_2 : w67.cell? ⟨gb131, 2, none⟩ = some (.int .i64 a0_2) := (blk_cell BK131.out 2).trans rfl; have hcz70_3 : w67.cell? ⟨gb131, 3, none⟩ = some (.slice A0_3 l0_3.length c0_3) := (blk_cell BK131.out 3).trans rfl; have hcz70_4 : w67.cell? ⟨gb131, 4, none⟩ = some (.slice A0_4 l0_4.length c0_4) := (blk_cell BK131.out 4).trans rfl; have hcz70_5 : w67.cell? ⟨gb131, 5, none⟩ = some (.slice A0_5 l0_5.length c0_5) := (blk_cell BK131.out 5).trans rfl; have hcz70_6 : w67.cell? ⟨gb131, 6, none⟩ = some (.slice (some ad141) l0_6.length c0_6) := (blk_cell BK131.out 6).trans rfl; have hfz70_0 := blk_frozen BK131.out 0; have hfz70_1 := blk_frozen BK131.out 1; have hfz70_2 := blk_frozen BK131.out 2; have hfz70_3 := blk_frozen BK131.out 3; have hfz70_4 := blk_frozen BK131.out 4; have hfz70_5 := blk_frozen BK131.out 5; have hfz70_6 := blk_frozen BK131.out 6) | ((with_reducible refine gate_callee (f := 20) rfl ?_); refine goesL_ (some 118) rfl rfl Try.func20 (by kernel_rfl) rfl #[.slice A0_4 l0_4.length c0_4, .int .i64 ((rd_T55 l0_6 x8_6).f0)] rfl (by (try simp only [List.map_toArray, List.map_cons, List.map_nil]); first | done | rfl | (simp only [List.length_drop, List.length_take]; rfl)) ?_; (with_reducible refine (pacelineref05_Has.calls k6 _ _ l0_4 ((rd_T55 l0_6 x8_6).f0) true _ ?side1 ?side2 A63.out).mono ?_); (case side1 => exact Kd.C_below HR0_4.out (by repeat (first | (with_reducible first | exact HB.out | apply below_alloc | apply pw_below_drewN | apply below_drew1 | refine below_set ?_ GE131.out | refine below_set ?_ GE142.out) | exact HB.out))); (case side2 => exact HC0_4.out); rintro e w' ⟨rfl, ⟨nd, rfl⟩⟩; refine ⟨_, rfl, ?_⟩))
                       go_ret
                       exact ⟨by first | rfl | (simp [errW_none, errW_some] <;> rfl) | (simp [*, errW_none, errW_some] <;> rfl), by repeat (first | (with_reducible first | exact HB.out | apply below_alloc | apply pw_below_drewN | apply below_drew1 | refine below_set ?_ GE131.out | refine below_set ?_ GE142.out) | exact HB.out)⟩
                      ·rw [if_neg c65] at H
                       have c65b0 : decide (((rd_T55 l0_6 x8_6).f1) < 0) = false := decide_eq_false c65
                       clear c65
                       by_cases c71 : ((rd_T55 l0_6 x8_6).f1) > 1099511627776
                       ·rw [if_pos c71] at H
                        have c71b0 : decide (1099511627776 < ((rd_T55 l0_6 x8_6).f1)) = true := decide_eq_true c71
                        clear c71
                        obtain rfl := Option.some.inj H
                        have hcz72_0 : wr.cell? ⟨gb131, 0, none⟩ = some (.int .i64 a0_0) := (blk_cell BK131.out 0).trans rfl
                        have hcz72_1 : wr.cell? ⟨gb131, 1, none⟩ = some (.int .i64 a0_1) := (blk_cell BK131.out 1).trans rfl
                        have hcz72_2 : wr.cell? ⟨gb131, 2, none⟩ = some (.int .i64 a0_2) := (blk_cell BK131.out 2).trans rfl
                        have hcz72_3 : wr.cell? ⟨gb131, 3, none⟩ = some (.slice A0_3 l0_3.length c0_3) := (blk_cell BK131.out 3).trans rfl
                        have hcz72_4 : wr.cell? ⟨gb131, 4, none⟩ = some (.slice A0_4 l0_4.length c0_4) := (blk_cell BK131.out 4).trans rfl
                        have hcz72_5 : wr.cell? ⟨gb131, 5, none⟩ = some (.slice A0_5 l0_5.length c0_5) := (blk_cell BK131.out 5).trans rfl
                        have hcz72_6 : wr.cell? ⟨gb131, 6, none⟩ = some (.slice A0_6 l0_6.length c0_6) := (blk_cell BK131.out 6).trans rfl
                        have hfz72_0 := blk_frozen BK131.out 0
                        have hfz72_1 := blk_frozen BK131.out 1
                        have hfz72_2 := blk_frozen BK131.out 2
                        have hfz72_3 := blk_frozen BK131.out 3
                        have hfz72_4 := blk_frozen BK131.out 4
                        have hfz72_5 := blk_frozen BK131.out 5
                        have hfz72_6 := blk_frozen BK131.out 6
                        have p141 : 0 ≤ (x8_6 : Int) := of_decide_eq_true (by first | (with_reducible assumption) | assumption)
                        have q141 : x8_6 < (l0_6.length : Int) := of_decide_eq_true (by first | (with_reducible assumption) | assumption)
                        obtain ⟨ad141, e141, hx141_0, hx141_1, hx141_2⟩ := at_T55 HR0_6.out x8_6 p141 q141
                        cases e141
                        replace hx141_0 := (HB.out.cell (World.block_lt_of_cell? w _ hx141_0)).trans hx141_0
                        replace hx141_1 := (HB.out.cell (World.block_lt_of_cell? w _ hx141_1)).trans hx141_1
                        replace hx141_2 := (HB.out.cell (World.block_lt_of_cell? w _ hx141_2)).trans hx141_2
                        replace p141 := eq_true p141
                        replace q141 := eq_true q141
                        go_wp2_with (first | ((with_reducible refine gate_dst (N := 9) rfl ?_); refine box_event ?hg (N := 9) ?hd (cs := #[.int .i64 0, .int .i64 0, .int .i64 0]) (t := 55) ?hr ?_; (case hd => rfl); (case hg => rfl); (case hr => first | (go_simp; done) | (go_simp; rfl)); intro gb142 hg w73 hbox hb; have n0_ := Aside0.mk (blk_below (g := gb131) (o := .cells #[.int .i64 a0_0, .int .i64 a0_1, .int .i64 a0_2, .slice A0_3 l0_3.length c0_3, .slice A0_4 l0_4.length c0_4, .slice A0_5 l0_5.length c0_5, .slice (some ad141) l0_6.length c0_6] 42 (0, 0)) (by (with_reducible repeat (first | refine blk_drewN ?_ _ | refine blk_drew ?_ | refine blk_alloc ?_ _)); exact BK131.out) hb); have n1_ := Aside0.mk (below_step (by repeat (first | (with_reducible first | exact HB.out | apply below_alloc | apply pw_below_drewN | apply below_drew1 | refine below_set ?_ GE131.out) | exact HB.out)) hb); have n2_ := Aside0.mk (hbox); have n3_ := Aside0.mk ((by rw [hg]; exact (below_size (by repeat (first | (with_reducible first | exact HB.out | apply below_alloc | apply pw_below_drewN | apply below_drew1 | refine below_set ?_ GE131.out) | exact HB.out))) : w.heap.size ≤ gb142)); have n4_ := Aside0.mk ((by rw [hg]; exact (below_size (by repeat (first | (with_reducible first | exact HB.out | apply below_alloc | apply pw_below_drewN | apply below_drew1 | refine below_set ?_ GE131.out) | exact HB.out))) : w.heap.size ≤ gb142)); have n5_ := Aside0.mk ((by rw [hg]; exact Nat.ne_of_lt (blk_lt (g := gb131) (o := .cells #[.int .i64 a0_0, .int .i64 a0_1, .int .i64 a0_2, .slice A0_3 l0_3.length c0_3, .slice A0_4 l0_4.length c0_4, .slice A0_5 l0_5.length c0_5, .slice (some ad141) l0_6.length c0_6] 42 (0, 0)) (by (with_reducible repeat (first | refine blk_drewN ?_ _ | refine blk_drew ?_ | refine blk_alloc ?_ _)); exact BK131.out)) : gb131 ≠ gb142)); have n6_ := Aside0.mk ((by rw [hg]; exact Nat.ne_of_gt (blk_lt (g := gb131) (o := .cells #[.int .i64 a0_0, .int .i64 a0_1, .int .i64 a0_2, .slice A0_3 l0_3.length c0_3, .slice A0_4 l0_4.length c0_4, .slice A0_5 l0_5.length c0_5, .slice (some ad141) l0_6.length c0_6] 42 (0, 0)) (by (with_reducible repeat (first | refine blk_drewN ?_ _ | refine blk_drew ?_ | refine blk_alloc ?_ _)); exact BK131.out)) : gb142 ≠ gb131)); clear BK131; clear HB; have BK131 := n0_; have HB := n1_; have BK142 := n2_; have GW142 := n3_; have GE142 := n4_; have NB131_142 := n5_; have NB142_131 := n6_; clear n0_ n1_ n2_ n3_ n4_ n5_ n6_; clear hb hbox hg; have hnb74 := NB142_131.out; have hnc74 := NB131_142.out; have hcz75_0 : w73.cell? ⟨gb142, 0, none⟩ = some (.int .i64 0) := (blk_cell BK142.out 0).trans rfl; have hcz75_1 : w73.cell? ⟨gb142, 1, none⟩ = some (.int .i64 0) := (blk_cell BK142.out 1).trans rfl; have hcz75_2 : w73.cell? ⟨gb142, 2, none⟩ = some (.int .i64 0) := (blk_cell BK142.out 2).trans rfl; have hfz75_0 := blk_frozen BK142.out 0; have hfz75_1 := blk_frozen BK142.out 1; have hfz75_2 := blk_frozen BK142.out 2; have hcz76_0 : w73.cell? ⟨gb131, 0, none⟩ = some (.int .i64 a0_0) := (blk_cell BK131.out 0).trans rfl; have hcz76_1 : w73.cell? ⟨gb131, 1, none⟩ = some (.int .i64 a0_1) := (blk_cell BK131.out 1).trans rfl; have hcz76_2 : w73.cell? ⟨gb131, 2, none⟩ = some (.int .i64 a0_2) := (blk_cell BK131.out 2).trans rfl; have hcz76_3 : w73.cell? ⟨gb131, 3, none⟩ = some (.slice A0_3 l0_3.length c0_3) := (blk_cell BK131.out 3).trans rfl; have hcz76_4 : w73.cell? ⟨gb131, 4, none⟩ = some (.slice A0_4 l0_4.length c0_4) := (blk_cell BK131.out 4).trans rfl; have hcz76_5 : w73.cell? ⟨gb131, 5, none⟩ = some (.slice A0_5 l0_5.length c0_5) := (blk_cell BK131.out 5).trans rfl; have hcz76_6 : w73.cell? ⟨gb131, 6, none⟩ = some (.slice (some ad141) l0_6.length c0_6) := (blk_cell BK131.out 6).trans rfl; have hfz76_0 := blk_frozen BK131.out 0; have hfz76_1 := blk_frozen BK131.out 1; have hfz76_2 := blk_frozen BK131.out 2; have hfz76_3 := blk_frozen BK131.out 3; have hfz76_4 := blk_frozen BK131.out 4; have hfz76_5 := blk_frozen BK131.out 5; have hfz76_6 := blk_frozen BK131.out 6) | ((with_reducible refine gate_callee (f := 20) rfl ?_); refine goesL_ (some 118) rfl rfl Try.func20 (by kernel_rfl) rfl #[.slice A0_4 l0_4.length c0_4, .int .i64 ((rd_T55 l0_6 x8_6).f0)] rfl (by (try simp only [List.map_toArray, List.map_cons, List.map_nil]); first | done | rfl | (simp only [List.length_drop, List.length_take]; rfl)) ?_; (with_reducible refine (pacelineref05_Has.calls k6 _ _ l0_4 ((rd_T55 l0_6 x8_6).f0) true _ ?side1 ?side2 A63.out).mono ?_); (case side1 => exact Kd.C_below HR0_4.out (by repeat (first | (with_reducible first | exact HB.out | apply below_alloc | apply pw_below_drewN | apply below_drew1 | refine below_set ?_ GE131.out | refine below_set ?_ GE142.out) | exact HB.out))); (case side2 => exact HC0_4.out); rintro e w' ⟨rfl, ⟨nd, rfl⟩⟩; refine ⟨_, rfl, ?_⟩))
                        go_ret
                        exact ⟨by first | rfl | (simp [errW_none, errW_some] <;> rfl) | (simp [*, errW_none, errW_some] <;> rfl), by repeat (first | (with_reducible first | exact HB.out | apply below_alloc | apply pw_below_drewN | apply below_drew1 | refine below_set ?_ GE131.out | refine below_set ?_ GE142.out) | exact HB.out)⟩
                       ·rw [if_neg c71] at H
                        have c71b0 : decide (1099511627776 < ((rd_T55 l0_6 x8_6).f1)) = false := decide_eq_false c71
                        clear c71
                        by_cases c77 : ((rd_T55 l0_6 x8_6).f2) < 0
                        ·rw [if_pos c77] at H
                         have c77b0 : decide (((rd_T55 l0_6 x8_6).f2) < 0) = true := decide_eq_true c77
                         clear c77
                         obtain rfl := Option.some.inj H
                         have hcz78_0 : wr.cell? ⟨gb131, 0, none⟩ = some (.int .i64 a0_0) := (blk_cell BK131.out 0).trans rfl
                         have hcz78_1 : wr.cell? ⟨gb131, 1, none⟩ = some (.int .i64 a0_1) := (blk_cell BK131.out 1).trans rfl
                         have hcz78_2 : wr.cell? ⟨gb131, 2, none⟩ = some (.int .i64 a0_2) := (blk_cell BK131.out 2).trans rfl
                         have hcz78_3 : wr.cell? ⟨gb131, 3, none⟩ = some (.slice A0_3 l0_3.length c0_3) := (blk_cell BK131.out 3).trans rfl
                         have hcz78_4 : wr.cell? ⟨gb131, 4, none⟩ = some (.slice A0_4 l0_4.length c0_4) := (blk_cell BK131.out 4).trans rfl
                         have hcz78_5 : wr.cell? ⟨gb131, 5, none⟩ = some (.slice A0_5 l0_5.length c0_5) := (blk_cell BK131.out 5).trans rfl
                         have hcz78_6 : wr.cell? ⟨gb131, 6, none⟩ = some (.slice A0_6 l0_6.length c0_6) := (blk_cell BK131.out 6).trans rfl
                         have hfz78_0 := blk_frozen BK131.out 0
                         have hfz78_1 := blk_frozen BK131.out 1
                         have hfz78_2 := blk_frozen BK131.out 2
                         have hfz78_3 := blk_frozen BK131.out 3
                         have hfz78_4 := blk_frozen BK131.out 4
                         have hfz78_5 := blk_frozen BK131.out 5
                         have hfz78_6 := blk_frozen BK131.out 6
                         have p141 : 0 ≤ (x8_6 : Int) := of_decide_eq_true (by first | (with_reducible assumption) | assumption)
                         have q141 : x8_6 < (l0_6.length : Int) := of_decide_eq_true (by first | (with_reducible assumption) | assumption)
                         obtain ⟨ad141, e141, hx141_0, hx141_1, hx141_2⟩ := at_T55 HR0_6.out x8_6 p141 q141
                         cases e141
                         replace hx141_0 := (HB.out.cell (World.block_lt_of_cell? w _ hx141_0)).trans hx141_0
                         replace hx141_1 := (HB.out.cell (World.block_lt_of_cell? w _ hx141_1)).trans hx141_1
                         replace hx141_2 := (HB.out.cell (World.block_lt_of_cell? w _ hx141_2)).trans hx141_2
                         replace p141 := eq_true p141
                         replace q141 := eq_true q141
                         go_wp2_with (first | ((with_reducible refine gate_dst (N := 9) rfl ?_); refine box_event ?hg (N := 9) ?hd (cs := #[.int .i64 0, .int .i64 0, .int .i64 0]) (t := 55) ?hr ?_; (case hd => rfl); (case hg => rfl); (case hr => first | (go_simp; done) | (go_simp; rfl)); intro gb142 hg w79 hbox hb; have n0_ := Aside0.mk (blk_below (g := gb131) (o := .cells #[.int .i64 a0_0, .int .i64 a0_1, .int .i64 a0_2, .slice A0_3 l0_3.length c0_3, .slice A0_4 l0_4.length c0_4, .slice A0_5 l0_5.length c0_5, .slice (some ad141) l0_6.length c0_6] 42 (0, 0)) (by (with_reducible repeat (first | refine blk_drewN ?_ _ | refine blk_drew ?_ | refine blk_alloc ?_ _)); exact BK131.out) hb); have n1_ := Aside0.mk (below_step (by repeat (first | (with_reducible first | exact HB.out | apply below_alloc | apply pw_below_drewN | apply below_drew1 | refine below_set ?_ GE131.out) | exact HB.out)) hb); have n2_ := Aside0.mk (hbox); have n3_ := Aside0.mk ((by rw [hg]; exact (below_size (by repeat (first | (with_reducible first | exact HB.out | apply below_alloc | apply pw_below_drewN | apply below_drew1 | refine below_set ?_ GE131.out) | exact HB.out))) : w.heap.size ≤ gb142)); have n4_ := Aside0.mk ((by rw [hg]; exact (below_size (by repeat (first | (with_reducible first | exact HB.out | apply below_alloc | apply pw_below_drewN | apply below_drew1 | refine below_set ?_ GE131.out) | exact HB.out))) : w.heap.size ≤ gb142)); have n5_ := Aside0.mk ((by rw [hg]; exact Nat.ne_of_lt (blk_lt (g := gb131) (o := .cells #[.int .i64 a0_0, .int .i64 a0_1, .int .i64 a0_2, .slice A0_3 l0_3.length c0_3, .slice A0_4 l0_4.length c0_4, .slice A0_5 l0_5.length c0_5, .slice (some ad141) l0_6.length c0_6] 42 (0, 0)) (by (with_reducible repeat (first | refine blk_drewN ?_ _ | refine blk_drew ?_ | refine blk_alloc ?_ _)); exact BK131.out)) : gb131 ≠ gb142)); have n6_ := Aside0.mk ((by rw [hg]; exact Nat.ne_of_gt (blk_lt (g := gb131) (o := .cells #[.int .i64 a0_0, .int .i64 a0_1, .int .i64 a0_2, .slice A0_3 l0_3.length c0_3, .slice A0_4 l0_4.length c0_4, .slice A0_5 l0_5.length c0_5, .slice (some ad141) l0_6.length c0_6] 42 (0, 0)) (by (with_reducible repeat (first | refine blk_drewN ?_ _ | refine blk_drew ?_ | refine blk_alloc ?_ _)); exact BK131.out)) : gb142 ≠ gb131)); clear BK131; clear HB; have BK131 := n0_; have HB := n1_; have BK142 := n2_; have GW142 := n3_; have GE142 := n4_; have NB131_142 := n5_; have NB142_131 := n6_; clear n0_ n1_ n2_ n3_ n4_ n5_ n6_; clear hb hbox hg; have hnb80 := NB142_131.out; have hnc80 := NB131_142.out; have hcz81_0 : w79.cell? ⟨gb142, 0, none⟩ = some (.int .i64 0) := (blk_cell BK142.out 0).trans rfl; have hcz81_1 : w79.cell? ⟨gb142, 1, none⟩ = some (.int .i64 0) := (blk_cell BK142.out 1).trans rfl; have hcz81_2 : w79.cell? ⟨gb142, 2, none⟩ = some (.int .i64 0) := (blk_cell BK142.out 2).trans rfl; have hfz81_0 := blk_frozen BK142.out 0; have hfz81_1 := blk_frozen BK142.out 1; have hfz81_2 := blk_frozen BK142.out 2; have hcz82_0 : w79.cell? ⟨gb131, 0, none⟩ = some (.int .i64 a0_0) := (blk_cell BK131.out 0).trans rfl; have hcz82_1 : w79.cell? ⟨gb131, 1, none⟩ = some (.int .i64 a0_1) := (blk_cell BK131.out 1).trans rfl; have hcz82_2 : w79.cell? ⟨gb131, 2, none⟩ = some (.int .i64 a0_2) := (blk_cell BK131.out 2).trans rfl; have hcz82_3 : w79.cell? ⟨gb131, 3, none⟩ = some (.slice A0_3 l0_3.length c0_3) := (blk_cell BK131.out 3).trans rfl; have hcz82_4 : w79.cell? ⟨gb131, 4, none⟩ = some (.slice A0_4 l0_4.length c0_4) := (blk_cell BK131.out 4).trans rfl; have hcz82_5 : w79.cell? ⟨gb131, 5, none⟩ = some (.slice A0_5 l0_5.length c0_5) := (blk_cell BK131.out 5).trans rfl; have hcz82_6 : w79.cell? ⟨gb131, 6, none⟩ = some (.slice (some ad141) l0_6.length c0_6) := (blk_cell BK131.out 6).trans rfl; have hfz82_0 := blk_frozen BK131.out 0; have hfz82_1 := blk_frozen BK131.out 1; have hfz82_2 := blk_frozen BK131.out 2; have hfz82_3 := blk_frozen BK131.out 3; have hfz82_4 := blk_frozen BK131.out 4; have hfz82_5 := blk_frozen BK131.out 5; have hfz82_6 := blk_frozen BK131.out 6) | ((with_reducible refine gate_callee (f := 20) rfl ?_); refine goesL_ (some 118) rfl rfl Try.func20 (by kernel_rfl) rfl #[.slice A0_4 l0_4.length c0_4, .int .i64 ((rd_T55 l0_6 x8_6).f0)] rfl (by (try simp only [List.map_toArray, List.map_cons, List.map_nil]); first | done | rfl | (simp only [List.length_drop, List.length_take]; rfl)) ?_; (with_reducible refine (pacelineref05_Has.calls k6 _ _ l0_4 ((rd_T55 l0_6 x8_6).f0) true _ ?side1 ?side2 A63.out).mono ?_); (case side1 => exact Kd.C_below HR0_4.out (by repeat (first | (with_reducible first | exact HB.out | apply below_alloc | apply pw_below_drewN | apply below_drew1 | refine below_set ?_ GE131.out | refine below_set ?_ GE142.out) | exact HB.out))); (case side2 => exact HC0_4.out); rintro e w' ⟨rfl, ⟨nd, rfl⟩⟩; refine ⟨_, rfl, ?_⟩))
                         go_ret
                         exact ⟨by first | rfl | (simp [errW_none, errW_some] <;> rfl) | (simp [*, errW_none, errW_some] <;> rfl), by repeat (first | (with_reducible first | exact HB.out | apply below_alloc | apply pw_below_drewN | apply below_drew1 | refine below_set ?_ GE131.out | refine below_set ?_ GE142.out) | exact HB.out)⟩
                        ·rw [if_neg c77] at H
                         have c77b0 : decide (((rd_T55 l0_6 x8_6).f2) < 0) = false := decide_eq_false c77
                         clear c77
                         by_cases c83 : ((rd_T55 l0_6 x8_6).f2) ≥ 1000
                         ·rw [if_pos c83] at H
                          have c83b0 : decide (1000 ≤ ((rd_T55 l0_6 x8_6).f2)) = true := decide_eq_true c83
                          clear c83
                          obtain rfl := Option.some.inj H
                          have hcz84_0 : wr.cell? ⟨gb131, 0, none⟩ = some (.int .i64 a0_0) := (blk_cell BK131.out 0).trans rfl
                          have hcz84_1 : wr.cell? ⟨gb131, 1, none⟩ = some (.int .i64 a0_1) := (blk_cell BK131.out 1).trans rfl
                          have hcz84_2 : wr.cell? ⟨gb131, 2, none⟩ = some (.int .i64 a0_2) := (blk_cell BK131.out 2).trans rfl
                          have hcz84_3 : wr.cell? ⟨gb131, 3, none⟩ = some (.slice A0_3 l0_3.length c0_3) := (blk_cell BK131.out 3).trans rfl
                          have hcz84_4 : wr.cell? ⟨gb131, 4, none⟩ = some (.slice A0_4 l0_4.length c0_4) := (blk_cell BK131.out 4).trans rfl
                          have hcz84_5 : wr.cell? ⟨gb131, 5, none⟩ = some (.slice A0_5 l0_5.length c0_5) := (blk_cell BK131.out 5).trans rfl
                          have hcz84_6 : wr.cell? ⟨gb131, 6, none⟩ = some (.slice A0_6 l0_6.length c0_6) := (blk_cell BK131.out 6).trans rfl
                          have hfz84_0 := blk_frozen BK131.out 0
                          have hfz84_1 := blk_frozen BK131.out 1
                          have hfz84_2 := blk_frozen BK131.out 2
                          have hfz84_3 := blk_frozen BK131.out 3
                          have hfz84_4 := blk_frozen BK131.out 4
                          have hfz84_5 := blk_frozen BK131.out 5
                          have hfz84_6 := blk_frozen BK131.out 6
                          have p141 : 0 ≤ (x8_6 : Int) := of_decide_eq_true (by first | (with_reducible assumption) | assumption)
                          have q141 : x8_6 < (l0_6.length : Int) := of_decide_eq_true (by first | (with_reducible assumption) | assumption)
                          obtain ⟨ad141, e141, hx141_0, hx141_1, hx141_2⟩ := at_T55 HR0_6.out x8_6 p141 q141
                          cases e141
                          replace hx141_0 := (HB.out.cell (World.block_lt_of_cell? w _ hx141_0)).trans hx141_0
                          replace hx141_1 := (HB.out.cell (World.block_lt_of_cell? w _ hx141_1)).trans hx141_1
                          replace hx141_2 := (HB.out.cell (World.block_lt_of_cell? w _ hx141_2)).trans hx141_2
                          replace p141 := eq_true p141
                          replace q141 := eq_true q141
                          go_wp2_with (first | ((with_reducible refine gate_dst (N := 9) rfl ?_); refine box_event ?hg (N := 9) ?hd (cs := #[.int .i64 0, .int .i64 0, .int .i64 0]) (t := 55) ?hr ?_; (case hd => rfl); (case hg => rfl); (case hr => first | (go_simp; done) | (go_simp; rfl)); intro gb142 hg w85 hbox hb; have n0_ := Aside0.mk (blk_below (g := gb131) (o := .cells #[.int .i64 a0_0, .int .i64 a0_1, .int .i64 a0_2, .slice A0_3 l0_3.length c0_3, .slice A0_4 l0_4.length c0_4, .slice A0_5 l0_5.length c0_5, .slice (some ad141) l0_6.length c0_6] 42 (0, 0)) (by (with_reducible repeat (first | refine blk_drewN ?_ _ | refine blk_drew ?_ | refine blk_alloc ?_ _)); exact BK131.out) hb); have n1_ := Aside0.mk (below_step (by repeat (first | (with_reducible first | exact HB.out | apply below_alloc | apply pw_below_drewN | apply below_drew1 | refine below_set ?_ GE131.out) | exact HB.out)) hb); have n2_ := Aside0.mk (hbox); have n3_ := Aside0.mk ((by rw [hg]; exact (below_size (by repeat (first | (with_reducible first | exact HB.out | apply below_alloc | apply pw_below_drewN | apply below_drew1 | refine below_set ?_ GE131.out) | exact HB.out))) : w.heap.size ≤ gb142)); have n4_ := Aside0.mk ((by rw [hg]; exact (below_size (by repeat (first | (with_reducible first | exact HB.out | apply below_alloc | apply pw_below_drewN | apply below_drew1 | refine below_set ?_ GE131.out) | exact HB.out))) : w.heap.size ≤ gb142)); have n5_ := Aside0.mk ((by rw [hg]; exact Nat.ne_of_lt (blk_lt (g := gb131) (o := .cells #[.int .i64 a0_0, .int .i64 a0_1, .int .i64 a0_2, .slice A0_3 l0_3.length c0_3, .slice A0_4 l0_4.length c0_4, .slice A0_5 l0_5.length c0_5, .slice (some ad141) l0_6.length c0_6] 42 (0, 0)) (by (with_reducible repeat (first | refine blk_drewN ?_ _ | refine blk_drew ?_ | refine blk_alloc ?_ _)); exact BK131.out)) : gb131 ≠ gb142)); have n6_ := Aside0.mk ((by rw [hg]; exact Nat.ne_of_gt (blk_lt (g := gb131) (o := .cells #[.int .i64 a0_0, .int .i64 a0_1, .int .i64 a0_2, .slice A0_3 l0_3.length c0_3, .slice A0_4 l0_4.length c0_4, .slice A0_5 l0_5.length c0_5, .slice (some ad141) l0_6.length c0_6] 42 (0, 0)) (by (with_reducible repeat (first | refine blk_drewN ?_ _ | refine blk_drew ?_ | refine blk_alloc ?_ _)); exact BK131.out)) : gb142 ≠ gb131)); clear BK131; clear HB; have BK131 := n0_; have HB := n1_; have BK142 := n2_; have GW142 := n3_; have GE142 := n4_; have NB131_142 := n5_; have NB142_131 := n6_; clear n0_ n1_ n2_ n3_ n4_ n5_ n6_; clear hb hbox hg; have hnb86 := NB142_131.out; have hnc86 := NB131_142.out; have hcz87_0 : w85.cell? ⟨gb142, 0, none⟩ = some (.int .i64 0) := (blk_cell BK142.out 0).trans rfl; have hcz87_1 : w85.cell? ⟨gb142, 1, none⟩ = some (.int .i64 0) := (blk_cell BK142.out 1).trans rfl; have hcz87_2 : w85.cell? ⟨gb142, 2, none⟩ = some (.int .i64 0) := (blk_cell BK142.out 2).trans rfl; have hfz87_0 := blk_frozen BK142.out 0; have hfz87_1 := blk_frozen BK142.out 1; have hfz87_2 := blk_frozen BK142.out 2; have hcz88_0 : w85.cell? ⟨gb131, 0, none⟩ = some (.int .i64 a0_0) := (blk_cell BK131.out 0).trans rfl; have hcz88_1 : w85.cell? ⟨gb131, 1, none⟩ = some (.int .i64 a0_1) := (blk_cell BK131.out 1).trans rfl; have hcz88_2 : w85.cell? ⟨gb131, 2, none⟩ = some (.int .i64 a0_2) := (blk_cell BK131.out 2).trans rfl; have hcz88_3 : w85.cell? ⟨gb131, 3, none⟩ = some (.slice A0_3 l0_3.length c0_3) := (blk_cell BK131.out 3).trans rfl; have hcz88_4 : w85.cell? ⟨gb131, 4, none⟩ = some (.slice A0_4 l0_4.length c0_4) := (blk_cell BK131.out 4).trans rfl; have hcz88_5 : w85.cell? ⟨gb131, 5, none⟩ = some (.slice A0_5 l0_5.length c0_5) := (blk_cell BK131.out 5).trans rfl; have hcz88_6 : w85.cell? ⟨gb131, 6, none⟩ = some (.slice (some ad141) l0_6.length c0_6) := (blk_cell BK131.out 6).trans rfl; have hfz88_0 := blk_frozen BK131.out 0; have hfz88_1 := blk_frozen BK131.out 1; have hfz88_2 := blk_frozen BK131.out 2; have hfz88_3 := blk_frozen BK131.out 3; have hfz88_4 := blk_frozen BK131.out 4; have hfz88_5 := blk_frozen BK131.out 5; have hfz88_6 := blk_frozen BK131.out 6) | ((with_reducible refine gate_callee (f := 20) rfl ?_); refine goesL_ (some 118) rfl rfl Try.func20 (by kernel_rfl) rfl #[.slice A0_4 l0_4.length c0_4, .int .i64 ((rd_T55 l0_6 x8_6).f0)] rfl (by (try simp only [List.map_toArray, List.map_cons, List.map_nil]); first | done | rfl | (simp only [List.length_drop, List.length_take]; rfl)) ?_; (with_reducible refine (pacelineref05_Has.calls k6 _ _ l0_4 ((rd_T55 l0_6 x8_6).f0) true _ ?side1 ?side2 A63.out).mono ?_); (case side1 => exact Kd.C_below HR0_4.out (by repeat (first | (with_reducible first | exact HB.out | apply below_alloc | apply pw_below_drewN | apply below_drew1 | refine below_set ?_ GE131.out | refine below_set ?_ GE142.out) | exact HB.out))); (case side2 => exact HC0_4.out); rintro e w' ⟨rfl, ⟨nd, rfl⟩⟩; refine ⟨_, rfl, ?_⟩))
                          go_ret
                          exact ⟨by first | rfl | (simp [errW_none, errW_some] <;> rfl) | (simp [*, errW_none, errW_some] <;> rfl), by repeat (first | (with_reducible first | exact HB.out | apply below_alloc | apply pw_below_drewN | apply below_drew1 | refine below_set ?_ GE131.out | refine below_set ?_ GE142.out) | exact HB.out)⟩
                         ·rw [if_neg c83] at H
                          have c83b0 : decide (1000 ≤ ((rd_T55 l0_6 x8_6).f2)) = false := decide_eq_false c83
                          clear c83
                          have H' := Aside0.mk H
                          clear H
                          have hcz89_0 : wr.cell? ⟨gb131, 0, none⟩ = some (.int .i64 a0_0) := (blk_cell BK131.out 0).trans rfl
                          have hcz89_1 : wr.cell? ⟨gb131, 1, none⟩ = some (.int .i64 a0_1) := (blk_cell BK131.out 1).trans rfl
                          have hcz89_2 : wr.cell? ⟨gb131, 2, none⟩ = some (.int .i64 a0_2) := (blk_cell BK131.out 2).trans rfl
                          have hcz89_3 : wr.cell? ⟨gb131, 3, none⟩ = some (.slice A0_3 l0_3.length c0_3) := (blk_cell BK131.out 3).trans rfl
                          have hcz89_4 : wr.cell? ⟨gb131, 4, none⟩ = some (.slice A0_4 l0_4.length c0_4) := (blk_cell BK131.out 4).trans rfl
                          have hcz89_5 : wr.cell? ⟨gb131, 5, none⟩ = some (.slice A0_5 l0_5.length c0_5) := (blk_cell BK131.out 5).trans rfl
                          have hcz89_6 : wr.cell? ⟨gb131, 6, none⟩ = some (.slice A0_6 l0_6.length c0_6) := (blk_cell BK131.out 6).trans rfl
                          have hfz89_0 := blk_frozen BK131.out 0
                          have hfz89_1 := blk_frozen BK131.out 1
                          have hfz89_2 := blk_frozen BK131.out 2
                          have hfz89_3 := blk_frozen BK131.out 3
                          have hfz89_4 := blk_frozen BK131.out 4
                          have hfz89_5 := blk_frozen BK131.out 5
                          have hfz89_6 := blk_frozen BK131.out 6
                          have p141 : 0 ≤ (x8_6 : Int) := of_decide_eq_true (by first | (with_reducible assumption) | assumption)
                          have q141 : x8_6 < (l0_6.length : Int) := of_decide_eq_true (by first | (with_reducible assumption) | assumption)
                          obtain ⟨ad141, e141, hx141_0, hx141_1, hx141_2⟩ := at_T55 HR0_6.out x8_6 p141 q141
                          cases e141
                          replace hx141_0 := (HB.out.cell (World.block_lt_of_cell? w _ hx141_0)).trans hx141_0
                          replace hx141_1 := (HB.out.cell (World.block_lt_of_cell? w _ hx141_1)).trans hx141_1
                          replace hx141_2 := (HB.out.cell (World.block_lt_of_cell? w _ hx141_2)).trans hx141_2
                          replace p141 := eq_true p141
                          replace q141 := eq_true q141
                          go_wp2_with (first | ((with_reducible refine gate_dst (N := 9) rfl ?_); refine box_event ?hg (N := 9) ?hd (cs := #[.int .i64 0, .int .i64 0, .int .i64 0]) (t := 55) ?hr ?_; (case hd => rfl); (case hg => rfl); (case hr => first | (go_simp; done) | (go_simp; rfl)); intro gb142 hg w90 hbox hb; have n0_ := Aside0.mk (blk_below (g := gb131) (o := .cells #[.int .i64 a0_0, .int .i64 a0_1, .int .i64 a0_2, .slice A0_3 l0_3.length c0_3, .slice A0_4 l0_4.length c0_4, .slice A0_5 l0_5.length c0_5, .slice (some ad141) l0_6.length c0_6] 42 (0, 0)) (by (with_reducible repeat (first | refine blk_drewN ?_ _ | refine blk_drew ?_ | refine blk_alloc ?_ _)); exact BK131.out) hb); have n1_ := Aside0.mk (below_step (by repeat (first | (with_reducible first | exact HB.out | apply below_alloc | apply pw_below_drewN | apply below_drew1 | refine below_set ?_ GE131.out) | exact HB.out)) hb); have n2_ := Aside0.mk (hbox); have n3_ := Aside0.mk ((by rw [hg]; exact (below_size (by repeat (first | (with_reducible first | exact HB.out | apply below_alloc | apply pw_below_drewN | apply below_drew1 | refine below_set ?_ GE131.out) | exact HB.out))) : w.heap.size ≤ gb142)); have n4_ := Aside0.mk ((by rw [hg]; exact (below_size (by repeat (first | (with_reducible first | exact HB.out | apply below_alloc | apply pw_below_drewN | apply below_drew1 | refine below_set ?_ GE131.out) | exact HB.out))) : w.heap.size ≤ gb142)); have n5_ := Aside0.mk ((by rw [hg]; exact Nat.ne_of_lt (blk_lt (g := gb131) (o := .cells #[.int .i64 a0_0, .int .i64 a0_1, .int .i64 a0_2, .slice A0_3 l0_3.length c0_3, .slice A0_4 l0_4.length c0_4, .slice A0_5 l0_5.length c0_5, .slice (some ad141) l0_6.length c0_6] 42 (0, 0)) (by (with_reducible repeat (first | refine blk_drewN ?_ _ | refine blk_drew ?_ | refine blk_alloc ?_ _)); exact BK131.out)) : gb131 ≠ gb142)); have n6_ := Aside0.mk ((by rw [hg]; exact Nat.ne_of_gt (blk_lt (g := gb131) (o := .cells #[.int .i64 a0_0, .int .i64 a0_1, .int .i64 a0_2, .slice A0_3 l0_3.length c0_3, .slice A0_4 l0_4.length c0_4, .slice A0_5 l0_5.length c0_5, .slice (some ad141) l0_6.length c0_6] 42 (0, 0)) (by (with_reducible repeat (first | refine blk_drewN ?_ _ | refine blk_drew ?_ | refine blk_alloc ?_ _)); exact BK131.out)) : gb142 ≠ gb131)); clear BK131; clear HB; have BK131 := n0_; have HB := n1_; have BK142 := n2_; have GW142 := n3_; have GE142 := n4_; have NB131_142 := n5_; have NB142_131 := n6_; clear n0_ n1_ n2_ n3_ n4_ n5_ n6_; clear hb hbox hg; have hnb91 := NB142_131.out; have hnc91 := NB131_142.out; have hcz92_0 : w90.cell? ⟨gb142, 0, none⟩ = some (.int .i64 0) := (blk_cell BK142.out 0).trans rfl; have hcz92_1 : w90.cell? ⟨gb142, 1, none⟩ = some (.int .i64 0) := (blk_cell BK142.out 1).trans rfl; have hcz92_2 : w90.cell? ⟨gb142, 2, none⟩ = some (.int .i64 0) := (blk_cell BK142.out 2).trans rfl; have hfz92_0 := blk_frozen BK142.out 0; have hfz92_1 := blk_frozen BK142.out 1; have hfz92_2 := blk_frozen BK142.out 2; have hcz93_0 : w90.cell? ⟨gb131, 0, none⟩ = some (.int .i64 a0_0) := (blk_cell BK131.out 0).trans rfl; have hcz93_1 : w90.cell? ⟨gb131, 1, none⟩ = some (.int .i64 a0_1) := (blk_cell BK131.out 1).trans rfl; have hcz93_2 : w90.cell? ⟨gb131, 2, none⟩ = some (.int .i64 a0_2) := (blk_cell BK131.out 2).trans rfl; have hcz93_3 : w90.cell? ⟨gb131, 3, none⟩ = some (.slice A0_3 l0_3.length c0_3) := (blk_cell BK131.out 3).trans rfl; have hcz93_4 : w90.cell? ⟨gb131, 4, none⟩ = some (.slice A0_4 l0_4.length c0_4) := (blk_cell BK131.out 4).trans rfl; have hcz93_5 : w90.cell? ⟨gb131, 5, none⟩ = some (.slice A0_5 l0_5.length c0_5) := (blk_cell BK131.out 5).trans rfl; have hcz93_6 : w90.cell? ⟨gb131, 6, none⟩ = some (.slice (some ad141) l0_6.length c0_6) := (blk_cell BK131.out 6).trans rfl; have hfz93_0 := blk_frozen BK131.out 0; have hfz93_1 := blk_frozen BK131.out 1; have hfz93_2 := blk_frozen BK131.out 2; have hfz93_3 := blk_frozen BK131.out 3; have hfz93_4 := blk_frozen BK131.out 4; have hfz93_5 := blk_frozen BK131.out 5; have hfz93_6 := blk_frozen BK131.out 6) | ((with_reducible refine gate_callee (f := 20) rfl ?_); refine goesL_ (some 118) rfl rfl Try.func20 (by kernel_rfl) rfl #[.slice A0_4 l0_4.length c0_4, .int .i64 ((rd_T55 l0_6 x8_6).f0)] rfl (by (try simp only [List.map_toArray, List.map_cons, List.map_nil]); first | done | rfl | (simp only [List.length_drop, List.length_take]; rfl)) ?_; (with_reducible refine (pacelineref05_Has.calls k6 _ _ l0_4 ((rd_T55 l0_6 x8_6).f0) true _ ?side1 ?side2 A63.out).mono ?_); (case side1 => exact Kd.C_below HR0_4.out (by repeat (first | (with_reducible first | exact HB.out | apply below_alloc | apply pw_below_drewN | apply below_drew1 | refine below_set ?_ GE131.out | refine below_set ?_ GE142.out) | exact HB.out))); (case side2 => exact HC0_4.out); rintro e w' ⟨rfl, ⟨nd, rfl⟩⟩; refine ⟨_, rfl, ?_⟩))
                          go_roundg k6
                          case measure => have := HJ2.out; have := HJ8.out; have := HJ13.out; have := HJ22.out; have := HK5.out; have := HK6.out; omega
                          case rel => exact ⟨(wrap64 (x8_6 + 1)), (by first | rfl | (simp; done) | (simp [*]; done)), H', ⟨by have := HJ2.out; have := HJ8.out; have := HJ13.out; have := HJ22.out; have := HK5.out; have := HK6.out; omega⟩, ⟨by (with_reducible repeat (first | refine blk_drewN ?_ _ | refine blk_drew ?_ | refine blk_alloc ?_ _)); refine blk_far ?_ NB131_142.out _; (with_reducible repeat (first | refine blk_drewN ?_ _ | refine blk_drew ?_ | refine blk_alloc ?_ _)); refine blk_far ?_ NB131_142.out _; (with_reducible repeat (first | refine blk_drewN ?_ _ | refine blk_drew ?_ | refine blk_alloc ?_ _)); refine blk_far ?_ NB131_142.out _; (with_reducible repeat (first | refine blk_drewN ?_ _ | refine blk_drew ?_ | refine blk_alloc ?_ _)); exact BK131.out⟩, ⟨by repeat (first | (with_reducible first | exact HB.out | apply below_alloc | apply pw_below_drewN | apply below_drew1 | refine below_set ?_ GE131.out | refine below_set ?_ GE142.out) | exact HB.out)⟩⟩
                     ·replace c64 := Bool.eq_false_iff.mpr c64
                      subst c64
                      have H1 : (some 82) = some r := by rw [if_neg (show ¬ (false = true) by decide)] at H; exact H
                      clear H
                      have H := H1
                      clear H1
                      obtain rfl := Option.some.inj H
                      have hcz94_0 : wr.cell? ⟨gb131, 0, none⟩ = some (.int .i64 a0_0) := (blk_cell BK131.out 0).trans rfl
                      have hcz94_1 : wr.cell? ⟨gb131, 1, none⟩ = some (.int .i64 a0_1) := (blk_cell BK131.out 1).trans rfl
                      have hcz94_2 : wr.cell? ⟨gb131, 2, none⟩ = some (.int .i64 a0_2) := (blk_cell BK131.out 2).trans rfl
                      have hcz94_3 : wr.cell? ⟨gb131, 3, none⟩ = some (.slice A0_3 l0_3.length c0_3) := (blk_cell BK131.out 3).trans rfl
                      have hcz94_4 : wr.cell? ⟨gb131, 4, none⟩ = some (.slice A0_4 l0_4.length c0_4) := (blk_cell BK131.out 4).trans rfl
                      have hcz94_5 : wr.cell? ⟨gb131, 5, none⟩ = some (.slice A0_5 l0_5.length c0_5) := (blk_cell BK131.out 5).trans rfl
                      have hcz94_6 : wr.cell? ⟨gb131, 6, none⟩ = some (.slice A0_6 l0_6.length c0_6) := (blk_cell BK131.out 6).trans rfl
                      have hfz94_0 := blk_frozen BK131.out 0
                      have hfz94_1 := blk_frozen BK131.out 1
                      have hfz94_2 := blk_frozen BK131.out 2
                      have hfz94_3 := blk_frozen BK131.out 3
                      have hfz94_4 := blk_frozen BK131.out 4
                      have hfz94_5 := blk_frozen BK131.out 5
                      have hfz94_6 := blk_frozen BK131.out 6
                      have p141 : 0 ≤ (x8_6 : Int) := of_decide_eq_true (by first | (with_reducible assumption) | assumption)
                      have q141 : x8_6 < (l0_6.length : Int) := of_decide_eq_true (by first | (with_reducible assumption) | assumption)
                      obtain ⟨ad141, e141, hx141_0, hx141_1, hx141_2⟩ := at_T55 HR0_6.out x8_6 p141 q141
                      cases e141
                      replace hx141_0 := (HB.out.cell (World.block_lt_of_cell? w _ hx141_0)).trans hx141_0
                      replace hx141_1 := (HB.out.cell (World.block_lt_of_cell? w _ hx141_1)).trans hx141_1
                      replace hx141_2 := (HB.out.cell (World.block_lt_of_cell? w _ hx141_2)).trans hx141_2
                      replace p141 := eq_true p141
                      replace q141 := eq_true q141
                      go_wp2_with (first | ((with_reducible refine gate_dst (N := 9) rfl ?_); refine box_event ?hg (N := 9) ?hd (cs := #[.int .i64 0, .int .i64 0, .int .i64 0]) (t := 55) ?hr ?_; (case hd => rfl); (case hg => rfl); (case hr => first | (go_simp; done) | (go_simp; rfl)); intro gb142 hg w95 hbox hb; have n0_ := Aside0.mk (blk_below (g := gb131) (o := .cells #[.int .i64 a0_0, .int .i64 a0_1, .int .i64 a0_2, .slice A0_3 l0_3.length c0_3, .slice A0_4 l0_4.length c0_4, .slice A0_5 l0_5.length c0_5, .slice (some ad141) l0_6.length c0_6] 42 (0, 0)) (by (with_reducible repeat (first | refine blk_drewN ?_ _ | refine blk_drew ?_ | refine blk_alloc ?_ _)); exact BK131.out) hb); have n1_ := Aside0.mk (below_step (by repeat (first | (with_reducible first | exact HB.out | apply below_alloc | apply pw_below_drewN | apply below_drew1 | refine below_set ?_ GE131.out) | exact HB.out)) hb); have n2_ := Aside0.mk (hbox); have n3_ := Aside0.mk ((by rw [hg]; exact (below_size (by repeat (first | (with_reducible first | exact HB.out | apply below_alloc | apply pw_below_drewN | apply below_drew1 | refine below_set ?_ GE131.out) | exact HB.out))) : w.heap.size ≤ gb142)); have n4_ := Aside0.mk ((by rw [hg]; exact (below_size (by repeat (first | (with_reducible first | exact HB.out | apply below_alloc | apply pw_below_drewN | apply below_drew1 | refine below_set ?_ GE131.out) | exact HB.out))) : w.heap.size ≤ gb142)); have n5_ := Aside0.mk ((by rw [hg]; exact Nat.ne_of_lt (blk_lt (g := gb131) (o := .cells #[.int .i64 a0_0, .int .i64 a0_1, .int .i64 a0_2, .slice A0_3 l0_3.length c0_3, .slice A0_4 l0_4.length c0_4, .slice A0_5 l0_5.length c0_5, .slice (some ad141) l0_6.length c0_6] 42 (0, 0)) (by (with_reducible repeat (first | refine blk_drewN ?_ _ | refine blk_drew ?_ | refine blk_alloc ?_ _)); exact BK131.out)) : gb131 ≠ gb142)); have n6_ := Aside0.mk ((by rw [hg]; exact Nat.ne_of_gt (blk_lt (g := gb131) (o := .cells #[.int .i64 a0_0, .int .i64 a0_1, .int .i64 a0_2, .slice A0_3 l0_3.length c0_3, .slice A0_4 l0_4.length c0_4, .slice A0_5 l0_5.length c0_5, .slice (some ad141) l0_6.length c0_6] 42 (0, 0)) (by (with_reducible repeat (first | refine blk_drewN ?_ _ | refine blk_drew ?_ | refine blk_alloc ?_ _)); exact BK131.out)) : gb142 ≠ gb131)); clear BK131; clear HB; have BK131 := n0_; have HB := n1_; have BK142 := n2_; have GW142 := n3_; have GE142 := n4_; have NB131_142 := n5_; have NB142_131 := n6_; clear n0_ n1_ n2_ n3_ n4_ n5_ n6_; clear hb hbox hg; have hnb96 := NB142_131.out; have hnc96 := NB131_142.out; have hcz97_0 : w95.cell? ⟨gb142, 0, none⟩ = some (.int .i64 0) := (blk_cell BK142.out 0).trans rfl; have hcz97_1 : w95.cell? ⟨gb142, 1, none⟩ = some (.int .i64 0) := (blk_cell BK142.out 1).trans rfl; have hcz97_2 : w95.cell? ⟨gb142, 2, none⟩ = some (.int .i64 0) := (blk_cell BK142.out 2).trans rfl; have hfz97_0 := blk_frozen BK142.out 0; have hfz97_1 := blk_frozen BK142.out 1; have hfz97_2 := blk_frozen BK142.out 2; have hcz98_0 : w95.cell? ⟨gb131, 0, none⟩ = some (.int .i64 a0_0) := (blk_cell BK131.out 0).trans rfl; have hcz98_1 : w95.cell? ⟨gb131, 1, none⟩ = some (.int .i64 a0_1) := (blk_cell BK131.out 1).trans rfl; have hcz98_2 : w95.cell? ⟨gb131, 2, none⟩ = some (.int .i64 a0_2) := (blk_cell BK131.out 2).trans rfl; have hcz98_3 : w95.cell? ⟨gb131, 3, none⟩ = some (.slice A0_3 l0_3.length c0_3) := (blk_cell BK131.out 3).trans rfl; have hcz98_4 : w95.cell? ⟨gb131, 4, none⟩ = some (.slice A0_4 l0_4.length c0_4) := (blk_cell BK131.out 4).trans rfl; have hcz98_5 : w95.cell? ⟨gb131, 5, none⟩ = some (.slice A0_5 l0_5.length c0_5) := (blk_cell BK131.out 5).trans rfl; have hcz98_6 : w95.cell? ⟨gb131, 6, none⟩ = some (.slice (some ad141) l0_6.length c0_6) := (blk_cell BK131.out 6).trans rfl; have hfz98_0 := blk_frozen BK131.out 0; have hfz98_1 := blk_frozen BK131.out 1; have hfz98_2 := blk_frozen BK131.out 2; have hfz98_3 := blk_frozen BK131.out 3; have hfz98_4 := blk_frozen BK131.out 4; have hfz98_5 := blk_frozen BK131.out 5; have hfz98_6 := blk_frozen BK131.out 6) | ((with_reducible refine gate_callee (f := 20) rfl ?_); refine goesL_ (some 118) rfl rfl Try.func20 (by kernel_rfl) rfl #[.slice A0_4 l0_4.length c0_4, .int .i64 ((rd_T55 l0_6 x8_6).f0)] rfl (by (try simp only [List.map_toArray, List.map_cons, List.map_nil]); first | done | rfl | (simp only [List.length_drop, List.length_take]; rfl)) ?_; (with_reducible refine (pacelineref05_Has.calls k6 _ _ l0_4 ((rd_T55 l0_6 x8_6).f0) false _ ?side1 ?side2 A63.out).mono ?_); (case side1 => exact Kd.C_below HR0_4.out (by repeat (first | (with_reducible first | exact HB.out | apply below_alloc | apply pw_below_drewN | apply below_drew1 | refine below_set ?_ GE131.out | refine below_set ?_ GE142.out) | exact HB.out))); (case side2 => exact HC0_4.out); rintro e w' ⟨rfl, ⟨nd, rfl⟩⟩; refine ⟨_, rfl, ?_⟩))
                      go_ret
                      exact ⟨by first | rfl | (simp [errW_none, errW_some] <;> rfl) | (simp [*, errW_none, errW_some] <;> rfl), by repeat (first | (with_reducible first | exact HB.out | apply below_alloc | apply pw_below_drewN | apply below_drew1 | refine below_set ?_ GE131.out | refine below_set ?_ GE142.out) | exact HB.out)⟩
                    ·rw [if_neg c62] at H
                     exact absurd H (by simp)
                   ·rw [if_neg c61] at H
                    have c61b0 : decide (x8_6 < (l0_6.length : Int)) = false := decide_eq_false c61
                    clear c61
                    obtain rfl := Option.some.inj H
                    have hcz99_0 : wr.cell? ⟨gb131, 0, none⟩ = some (.int .i64 a0_0) := (blk_cell BK131.out 0).trans rfl
                    have hcz99_1 : wr.cell? ⟨gb131, 1, none⟩ = some (.int .i64 a0_1) := (blk_cell BK131.out 1).trans rfl
                    have hcz99_2 : wr.cell? ⟨gb131, 2, none⟩ = some (.int .i64 a0_2) := (blk_cell BK131.out 2).trans rfl
                    have hcz99_3 : wr.cell? ⟨gb131, 3, none⟩ = some (.slice A0_3 l0_3.length c0_3) := (blk_cell BK131.out 3).trans rfl
                    have hcz99_4 : wr.cell? ⟨gb131, 4, none⟩ = some (.slice A0_4 l0_4.length c0_4) := (blk_cell BK131.out 4).trans rfl
                    have hcz99_5 : wr.cell? ⟨gb131, 5, none⟩ = some (.slice A0_5 l0_5.length c0_5) := (blk_cell BK131.out 5).trans rfl
                    have hcz99_6 : wr.cell? ⟨gb131, 6, none⟩ = some (.slice A0_6 l0_6.length c0_6) := (blk_cell BK131.out 6).trans rfl
                    have hfz99_0 := blk_frozen BK131.out 0
                    have hfz99_1 := blk_frozen BK131.out 1
                    have hfz99_2 := blk_frozen BK131.out 2
                    have hfz99_3 := blk_frozen BK131.out 3
                    have hfz99_4 := blk_frozen BK131.out 4
                    have hfz99_5 := blk_frozen BK131.out 5
                    have hfz99_6 := blk_frozen BK131.out 6
                    go_wp2
                    go_ret
                    exact ⟨by first | rfl | (simp [errW_none, errW_some] <;> rfl) | (simp [*, errW_none, errW_some] <;> rfl), by repeat (first | (with_reducible first | exact HB.out | apply below_alloc | apply pw_below_drewN | apply below_drew1 | refine below_set ?_ GE131.out) | exact HB.out)⟩

end Go.Proofs.Ytdlagficilbbbaa.PConfigKinds
