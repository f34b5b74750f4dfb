-- Written by gp.py (this project's driver over the kit's print) out of the translation and wip/given; Lean checks it.
import Derived.Test.YteomcpdfbaglaaaPLbtsTurnedx0
import Derived.Test.YteomcpdfbaglaaaPLbtsTurnedx2
import Derived.Test.YteomcpdfbaglaaaPLbtsTurnedx5
namespace Go.Proofs.Yteomcpdfbaglaaa.PLbtsTurned
open Go.RowKit Go.Proofs.YteomcpdfbaglaaaR Go.Proofs.YteomcpdfbaglaaaW.PrintWords Go.Proofs.YteomcpdfbaglaaaW.PrintLast Go.Proofs.YteomcpdfbaglaaaW.PrintMore
attribute [local go_sem] max2_int min2_int max_two min_two max_three min_three max_four min_four   -- for this text's walks alone
set_option linter.unusedVariables false
set_option linter.unusedSimpArgs false

/-! ### pacelinelaw18_LbtsTurned: function 8 -/
mutual
def pacelinelaw18_LbtsTurned.j0 : Nat → List (S30) → Int → Bool → Option (Bool)
  | 0, _, _, _ => none
  | k + 1, x0, x1, x18 => if x18 = true then ((lbts_Lbts.f k ([] : List (S30)) 0).bind fun t160 => (some (t160 == 1125899906842624))) else (if (x0.length : Int) = 0 then (none) else ((some (([] : List (S30)) : List (S30))).bind fun y161 => (if 0 ≤ (Int.tmod (wrap64 (x1)) (x0.length : Int)) then (if (Int.tmod (wrap64 (x1)) (x0.length : Int)) ≤ (x0.length : Int) then ((some (x0.drop ((Int.tmod (wrap64 (x1)) (x0.length : Int)) : Int).toNat : List (S30))).bind fun y164 => (if y161.length + y164.length < 2932031007402 then ((some (y161 ++ y164 : List (S30))).bind fun y168 => ((some (x0.take ((Int.tmod (wrap64 (x1)) (x0.length : Int)) : Int).toNat : List (S30))).bind fun y171 => (if y168.length + y171.length < 2932031007402 then ((lbts_Outputs.f x0).bind fun t178 => ((lbts_Outputs.f (y168 ++ y171)).bind fun t181 => ((pacelinelaw18_theirs.f k x0).bind fun t184 => ((pacelineref18_Outputs.f k t184).bind fun t187 => (if (t178.length : Int) = (x0.length : Int) then (pacelinelaw18_LbtsTurned.j1 k x0 (Int.tmod (wrap64 (x1)) (x0.length : Int)) t178 t181 t187 ((t181.length : Int) != (x0.length : Int))) else (pacelinelaw18_LbtsTurned.j1 k x0 (Int.tmod (wrap64 (x1)) (x0.length : Int)) t178 t181 t187 true)))))) else (none)))) else (none))) else (none)) else (none))))
def pacelinelaw18_LbtsTurned.j1 : Nat → List (S30) → Int → List Int → List Int → List Int → Bool → Option (Bool)
  | 0, _, _, _, _, _, _ => none
  | k + 1, x0, x5, x7, x8, x9, x55 => if x55 = true then (some false) else (pacelinelaw18_LbtsTurned.l0 k x0 x5 x7 x8 x9 0)
def pacelinelaw18_LbtsTurned.l0 : Nat → List (S30) → Int → List Int → List Int → List Int → Int → Option (Bool)
  | 0, _, _, _, _, _, _ => none
  | k + 1, x0, x5, x7, x8, x9, x10 => if x10 < (x0.length : Int) then (if (x0.length : Int) = 0 then (none) else (if 0 ≤ (Int.tmod (wrap64 (x10 + x5)) (x0.length : Int)) then (if (Int.tmod (wrap64 (x10 + x5)) (x0.length : Int)) < (x7.length : Int) then (if 0 ≤ x10 then (if x10 < (x8.length : Int) then (if (rd x7 (Int.tmod (wrap64 (x10 + x5)) (x0.length : Int))) = (rd x8 x10) then (if x10 < (x7.length : Int) then (if x10 < (x9.length : Int) then (if (rd x7 x10) = (rd x9 x10) then (pacelinelaw18_LbtsTurned.l0 k x0 x5 x7 x8 x9 (wrap64 (x10 + 1))) else (some false)) else (none)) else (none)) else (some false)) else (none)) else (none)) else (none)) else (none))) else (some true)
end
def pacelinelaw18_LbtsTurned.f (k : Nat) (l0 : List (S30)) (a1 : Int) : Option (Bool) := if (l0.length : Int) > 12 then (pacelinelaw18_LbtsTurned.j0 k l0 a1 true) else (pacelinelaw18_LbtsTurned.j0 k l0 a1 ((l0.length : Int) == 0))
theorem pacelinelaw18_LbtsTurned.mono_l : ∀ k, (∀ y0 y1 y2, LeO (pacelinelaw18_LbtsTurned.j0 k y0 y1 y2) (pacelinelaw18_LbtsTurned.j0 (k + 1) y0 y1 y2)) ∧ (∀ y0 y1 y2 y3 y4 y5, LeO (pacelinelaw18_LbtsTurned.j1 k y0 y1 y2 y3 y4 y5) (pacelinelaw18_LbtsTurned.j1 (k + 1) y0 y1 y2 y3 y4 y5)) ∧ (∀ y0 y1 y2 y3 y4 y5, LeO (pacelinelaw18_LbtsTurned.l0 k y0 y1 y2 y3 y4 y5) (pacelinelaw18_LbtsTurned.l0 (k + 1) y0 y1 y2 y3 y4 y5))
  | 0 => ⟨fun _ _ _ r h => by simp [pacelinelaw18_LbtsTurned.j0] at h, fun _ _ _ _ _ _ r h => by simp [pacelinelaw18_LbtsTurned.j1] at h, fun _ _ _ _ _ _ r h => by simp [pacelinelaw18_LbtsTurned.l0] at h⟩
  | k + 1 => by
    obtain ⟨ih0, ih1, ih2⟩ := pacelinelaw18_LbtsTurned.mono_l k
    refine ⟨?_, ?_, ?_⟩
    · intro y0 y1 y2
      unfold pacelinelaw18_LbtsTurned.j0
      repeat' first
      | (with_reducible exact ih0 _ _ _)
      | (with_reducible exact ih1 _ _ _ _ _ _)
      | (with_reducible exact ih2 _ _ _ _ _ _)
      | (with_reducible exact lbts_Lbts.mono _ _ _)
      | (with_reducible exact pacelinelaw18_theirs.mono _ _)
      | (with_reducible exact pacelineref18_Outputs.mono _ _)
      | (with_reducible exact LeO.refl _)
      | (with_reducible exact LeO.none _)
      | (with_reducible refine LeO.ite ?_ ?_)
      | (with_reducible refine LeO.bind ?_ (fun _ => ?_))
      | exact ih0 _ _ _
      | exact ih1 _ _ _ _ _ _
      | exact ih2 _ _ _ _ _ _
      | exact lbts_Lbts.mono _ _ _
      | exact pacelinelaw18_theirs.mono _ _
      | exact pacelineref18_Outputs.mono _ _
      | exact LeO.none _
      | refine LeO.ite ?_ ?_
      | refine LeO.bind ?_ (fun _ => ?_)
    · intro y0 y1 y2 y3 y4 y5
      unfold pacelinelaw18_LbtsTurned.j1
      repeat' first
      | (with_reducible exact ih0 _ _ _)
      | (with_reducible exact ih1 _ _ _ _ _ _)
      | (with_reducible exact ih2 _ _ _ _ _ _)
      | (with_reducible exact lbts_Lbts.mono _ _ _)
      | (with_reducible exact pacelinelaw18_theirs.mono _ _)
      | (with_reducible exact pacelineref18_Outputs.mono _ _)
      | (with_reducible exact LeO.refl _)
      | (with_reducible exact LeO.none _)
      | (with_reducible refine LeO.ite ?_ ?_)
      | (with_reducible refine LeO.bind ?_ (fun _ => ?_))
      | exact ih0 _ _ _
      | exact ih1 _ _ _ _ _ _
      | exact ih2 _ _ _ _ _ _
      | exact lbts_Lbts.mono _ _ _
      | exact pacelinelaw18_theirs.mono _ _
      | exact pacelineref18_Outputs.mono _ _
      | exact LeO.none _
      | refine LeO.ite ?_ ?_
      | refine LeO.bind ?_ (fun _ => ?_)
    · intro y0 y1 y2 y3 y4 y5
      unfold pacelinelaw18_LbtsTurned.l0
      repeat' first
      | (with_reducible exact ih0 _ _ _)
      | (with_reducible exact ih1 _ _ _ _ _ _)
      | (with_reducible exact ih2 _ _ _ _ _ _)
      | (with_reducible exact lbts_Lbts.mono _ _ _)
      | (with_reducible exact pacelinelaw18_theirs.mono _ _)
      | (with_reducible exact pacelineref18_Outputs.mono _ _)
      | (with_reducible exact LeO.refl _)
      | (with_reducible exact LeO.none _)
      | (with_reducible refine LeO.ite ?_ ?_)
      | (with_reducible refine LeO.bind ?_ (fun _ => ?_))
      | exact ih0 _ _ _
      | exact ih1 _ _ _ _ _ _
      | exact ih2 _ _ _ _ _ _
      | exact lbts_Lbts.mono _ _ _
      | exact pacelinelaw18_theirs.mono _ _
      | exact pacelineref18_Outputs.mono _ _
      | exact LeO.none _
      | refine LeO.ite ?_ ?_
      | refine LeO.bind ?_ (fun _ => ?_)
theorem pacelinelaw18_LbtsTurned.mono : ∀ a0 a1 k, LeO (pacelinelaw18_LbtsTurned.f k a0 a1) (pacelinelaw18_LbtsTurned.f (k + 1) a0 a1) := by
  intro a0 a1 k
  obtain ⟨ih0, ih1, ih2⟩ := pacelinelaw18_LbtsTurned.mono_l k
  unfold pacelinelaw18_LbtsTurned.f
  repeat' first
      | (with_reducible exact ih0 _ _ _)
      | (with_reducible exact ih1 _ _ _ _ _ _)
      | (with_reducible exact ih2 _ _ _ _ _ _)
      | (with_reducible exact lbts_Lbts.mono _ _ _)
      | (with_reducible exact pacelinelaw18_theirs.mono _ _)
      | (with_reducible exact pacelineref18_Outputs.mono _ _)
      | (with_reducible exact LeO.refl _)
      | (with_reducible exact LeO.none _)
      | (with_reducible refine LeO.ite ?_ ?_)
      | (with_reducible refine LeO.bind ?_ (fun _ => ?_))
      | exact ih0 _ _ _
      | exact ih1 _ _ _ _ _ _
      | exact ih2 _ _ _ _ _ _
      | exact lbts_Lbts.mono _ _ _
      | exact pacelinelaw18_theirs.mono _ _
      | exact pacelineref18_Outputs.mono _ _
      | exact LeO.none _
      | refine LeO.ite ?_ ?_
      | refine LeO.bind ?_ (fun _ => ?_)
set_option maxHeartbeats 8000000 in
set_option maxRecDepth 100000 in
theorem pacelinelaw18_LbtsTurned.calls (k : Nat) (A0 : Option Addr) (c0 : Nat) (l0 : List (S30)) (a1 : Int) (r : Bool) (w : World) (hr0 : Kd.C k30 w A0 l0.length l0) (hc0 : l0.length ≤ c0) (h : pacelinelaw18_LbtsTurned.f k l0 a1 = some r) :
    Calls Try.prog 8 #[.slice A0 l0.length c0, .int .u8 a1] w fun e w' => e = .returned (.bool r) ∧ Below w.heap.size w w' := by
  have HR0 := Aside0.mk hr0
  have HC0 := Aside0.mk hc0
  clear hr0 hc0
  have HB := Aside0.mk (Below.refl w.heap.size w)
  have H : (if (l0.length : Int) > 12 then (pacelinelaw18_LbtsTurned.j0 k l0 a1 true) else (pacelinelaw18_LbtsTurned.j0 k l0 a1 ((l0.length : Int) == 0))) = some r := h
  clear h
  have HC3 := Aside0.mk H
  clear H
  go_enter Try.func8, Try.ntmps8
  go_upto_region 1 with (fail)
  repeat (go_quiet (fail); go_upto_region 1 with (fail))
  go_cut [18] (fun v18 wc => ∃ (kq : Nat) (x18_2 : Bool), v18 = .bool x18_2 ∧ Aside0 (pacelinelaw18_LbtsTurned.j0 kq l0 a1 x18_2 = some r) ∧ Aside0 (kq ≤ k) ∧ Aside0 (Below w.heap.size w wc))
  case first =>
    have H := HC3.out
    clear HC3
    by_cases c4 : (l0.length : Int) > 12
    · rw [if_pos c4] at H
      have c4b0 : decide (12 < (l0.length : Int)) = true := decide_eq_true c4
      have c4b1 : decide (12 < l0.length) = true := decide_eq_true (by omega)
      clear c4
      (first | rw [c4b0] | (simp only [i64_w, i32_w]; rw [c4b0]) | skip)
      have H' := Aside0.mk H
      clear H
      go_wp2
      repeat (go_quiet (fail); try go_wp2)
      go_meet
      case rel => exact ⟨_, (true), (by first | rfl | (simp; done) | (simp [*]; done)), H', ⟨by first | omega | exact Nat.le_refl _⟩, ⟨by repeat (first | (with_reducible first | exact HB.out | apply below_alloc | apply pw_below_drewN | apply below_drew1) | exact HB.out)⟩⟩
    · rw [if_neg c4] at H
      have c4b0 : decide (12 < (l0.length : Int)) = false := decide_eq_false c4
      have c4b1 : decide (12 < l0.length) = false := decide_eq_false (by omega)
      clear c4
      (first | rw [c4b0] | (simp only [i64_w, i32_w]; rw [c4b0]) | skip)
      have H' := Aside0.mk H
      clear H
      go_wp2
      repeat (go_quiet (fail); try go_wp2)
      go_meet
      case rel => exact ⟨_, (((l0.length : Int) == 0)), (by first | rfl | (simp; done) | (simp [*]; done)), H', ⟨by first | omega | exact Nat.le_refl _⟩, ⟨by repeat (first | (with_reducible first | exact HB.out | apply below_alloc | apply pw_below_drewN | apply below_drew1) | exact HB.out)⟩⟩
  case rest =>
    clear HC3
    try clear p2
    try clear c4
    try clear c4b0
    try clear c4b1
    obtain ⟨kq, x18_2, rfl, HA, HJ2, HB⟩ := hcut
    cases kq with
    | zero => exact absurd HA.out (by simp [pacelinelaw18_LbtsTurned.j0])
    | succ kj2 =>
      have H := HA.out
      clear HA
      simp only [pacelinelaw18_LbtsTurned.j0] at H
      by_cases c5 : x18_2 = true
      · subst c5
        have H1 : ((lbts_Lbts.f kj2 ([] : List (S30)) 0).bind fun t160 => (some (t160 == 1125899906842624))) = some r := by rw [if_pos rfl] at H; exact H
        clear H
        have H := H1
        clear H1
        replace H := Option.bind_eq_some_iff.mp H
        obtain ⟨t160, A60, H⟩ := H
        replace H : (some (t160 == 1125899906842624)) = some r := H
        have A6 := Aside0.mk A60
        clear A60
        obtain rfl := Option.some.inj H
        go_wp2_with (first | (go_at_call 14; (refine (lbts_Lbts.calls kj2 _ _ ([] : List (S30)) 0 t160 _ ?side1 ?side2 A6.out).mono ?_); (case side1 => exact Kd.C_nil _ _); (case side2 => exact Nat.le_refl _); rintro e w7 ⟨rfl, hb⟩; have n0_ := Aside0.mk (below_step (by repeat (first | (with_reducible first | exact HB.out | apply below_alloc | apply pw_below_drewN | apply below_drew1) | exact HB.out)) hb); clear HB; have HB := n0_; clear n0_; (try clear hb); (try clear hb2); (try clear hk); (try clear hi)))
        repeat (go_quiet (first | (go_at_call 14; (refine (lbts_Lbts.calls kj2 _ _ ([] : List (S30)) 0 t160 _ ?side1 ?side2 A6.out).mono ?_); (case side1 => exact Kd.C_nil _ _); (case side2 => exact Nat.le_refl _); rintro e w7 ⟨rfl, hb⟩; have n0_ := Aside0.mk (below_step (by repeat (first | (with_reducible first | exact HB.out | apply below_alloc | apply pw_below_drewN | apply below_drew1) | exact HB.out)) hb); clear HB; have HB := n0_; clear n0_; (try clear hb); (try clear hb2); (try clear hk); (try clear hi))); try go_wp2_with (first | (go_at_call 14; (refine (lbts_Lbts.calls kj2 _ _ ([] : List (S30)) 0 t160 _ ?side1 ?side2 A6.out).mono ?_); (case side1 => exact Kd.C_nil _ _); (case side2 => exact Nat.le_refl _); rintro e w7 ⟨rfl, hb⟩; have n0_ := Aside0.mk (below_step (by repeat (first | (with_reducible first | exact HB.out | apply below_alloc | apply pw_below_drewN | apply below_drew1) | exact HB.out)) hb); clear HB; have HB := n0_; clear n0_; (try clear hb); (try clear hb2); (try clear hk); (try clear hi))))
        go_ret
        exact ⟨by first | rfl | (simp [errW_none, errW_some] <;> rfl) | (simp [*, errW_none, errW_some] <;> rfl), by repeat (first | (with_reducible first | exact HB.out | apply below_alloc | apply pw_below_drewN | apply below_drew1) | exact HB.out)⟩
      · replace c5 := Bool.eq_false_iff.mpr c5
        subst c5
        have H1 : (if (l0.length : Int) = 0 then (none) else ((some (([] : List (S30)) : List (S30))).bind fun y161 => (if 0 ≤ (Int.tmod (wrap64 (a1)) (l0.length : Int)) then (if (Int.tmod (wrap64 (a1)) (l0.length : Int)) ≤ (l0.length : Int) then ((some (l0.drop ((Int.tmod (wrap64 (a1)) (l0.length : Int)) : Int).toNat : List (S30))).bind fun y164 => (if y161.length + y164.length < 2932031007402 then ((some (y161 ++ y164 : List (S30))).bind fun y168 => ((some (l0.take ((Int.tmod (wrap64 (a1)) (l0.length : Int)) : Int).toNat : List (S30))).bind fun y171 => (if y168.length + y171.length < 2932031007402 then ((lbts_Outputs.f l0).bind fun t178 => ((lbts_Outputs.f (y168 ++ y171)).bind fun t181 => ((pacelinelaw18_theirs.f kj2 l0).bind fun t184 => ((pacelineref18_Outputs.f kj2 t184).bind fun t187 => (if (t178.length : Int) = (l0.length : Int) then (pacelinelaw18_LbtsTurned.j1 kj2 l0 (Int.tmod (wrap64 (a1)) (l0.length : Int)) t178 t181 t187 ((t181.length : Int) != (l0.length : Int))) else (pacelinelaw18_LbtsTurned.j1 kj2 l0 (Int.tmod (wrap64 (a1)) (l0.length : Int)) t178 t181 t187 true)))))) else (none)))) else (none))) else (none)) else (none)))) = some r := by rw [if_neg (show ¬ (false = true) by decide)] at H; exact H
        clear H
        have H := H1
        clear H1
        by_cases c8 : (l0.length : Int) = 0
        · rw [if_pos c8] at H
          exact absurd H (by simp)
        · rw [if_neg c8] at H
          have c8b0 : ((l0.length : Int) == 0) = false := beq_eq_false_iff_ne.mpr c8
          have c8b1 : ((l0.length : Int) != 0) = true := bne_iff_ne.mpr c8
          have c8b2 : ¬ (l0 = []) := fun h_ => c8 (by rw [h_]; rfl)
          obtain ⟨y161, hy161⟩ : ∃ y_ : List (S30), y_ = (([] : List (S30))) := ⟨_, rfl⟩
          replace H : (if 0 ≤ (Int.tmod (wrap64 (a1)) (l0.length : Int)) then (if (Int.tmod (wrap64 (a1)) (l0.length : Int)) ≤ (l0.length : Int) then ((some (l0.drop ((Int.tmod (wrap64 (a1)) (l0.length : Int)) : Int).toNat : List (S30))).bind fun y164 => (if y161.length + y164.length < 2932031007402 then ((some (y161 ++ y164 : List (S30))).bind fun y168 => ((some (l0.take ((Int.tmod (wrap64 (a1)) (l0.length : Int)) : Int).toNat : List (S30))).bind fun y171 => (if y168.length + y171.length < 2932031007402 then ((lbts_Outputs.f l0).bind fun t178 => ((lbts_Outputs.f (y168 ++ y171)).bind fun t181 => ((pacelinelaw18_theirs.f kj2 l0).bind fun t184 => ((pacelineref18_Outputs.f kj2 t184).bind fun t187 => (if (t178.length : Int) = (l0.length : Int) then (pacelinelaw18_LbtsTurned.j1 kj2 l0 (Int.tmod (wrap64 (a1)) (l0.length : Int)) t178 t181 t187 ((t181.length : Int) != (l0.length : Int))) else (pacelinelaw18_LbtsTurned.j1 kj2 l0 (Int.tmod (wrap64 (a1)) (l0.length : Int)) t178 t181 t187 true)))))) else (none)))) else (none))) else (none)) else (none)) = some r := by first | (rw [hy161]; with_reducible exact H) | (have H2_ := (Option.bind_some _ _).symm.trans H; rw [hy161]; with_reducible exact H2_) | (have H2_ := (Option.bind_some _ _).symm.trans H; with_reducible exact H2_) | with_reducible exact H | (rw [hy161]; exact H) | exact H
          have Ny161 := Aside0.mk hy161
          clear hy161
          obtain ⟨ji9, hji9⟩ : ∃ j_ : Int, (Int.tmod (wrap64 (a1)) (l0.length : Int)) = j_ := ⟨_, rfl⟩
          replace H : (if 0 ≤ (ji9) then (if (ji9) ≤ (l0.length : Int) then ((some (l0.drop ((ji9) : Int).toNat : List (S30))).bind fun y164 => (if y161.length + y164.length < 2932031007402 then ((some (y161 ++ y164 : List (S30))).bind fun y168 => ((some (l0.take ((ji9) : Int).toNat : List (S30))).bind fun y171 => (if y168.length + y171.length < 2932031007402 then ((lbts_Outputs.f l0).bind fun t178 => ((lbts_Outputs.f (y168 ++ y171)).bind fun t181 => ((pacelinelaw18_theirs.f kj2 l0).bind fun t184 => ((pacelineref18_Outputs.f kj2 t184).bind fun t187 => (if (t178.length : Int) = (l0.length : Int) then (pacelinelaw18_LbtsTurned.j1 kj2 l0 ji9 t178 t181 t187 ((t181.length : Int) != (l0.length : Int))) else (pacelinelaw18_LbtsTurned.j1 kj2 l0 ji9 t178 t181 t187 true)))))) else (none)))) else (none))) else (none)) else (none)) = some r := by first | (rw [hji9] at H; exact H) | (simp only [hji9] at H ⊢; exact H)
          by_cases c10 : 0 ≤ (ji9)
          · rw [if_pos c10] at H
            have c10b0 := eq_true c10
            have c10b1 : decide (0 ≤ (ji9)) = true := decide_eq_true c10
            clear c10
            by_cases c11 : (ji9) ≤ (l0.length : Int)
            · rw [if_pos c11] at H
              have c11b0 := eq_true c11
              have c11b1 : decide ((ji9) ≤ (l0.length : Int)) = true := decide_eq_true c11
              clear c11
              obtain ⟨y164, hy164⟩ : ∃ y_ : List (S30), y_ = (l0.drop ((ji9) : Int).toNat) := ⟨_, rfl⟩
              replace H : (if y161.length + y164.length < 2932031007402 then ((some (y161 ++ y164 : List (S30))).bind fun y168 => ((some (l0.take ((ji9) : Int).toNat : List (S30))).bind fun y171 => (if y168.length + y171.length < 2932031007402 then ((lbts_Outputs.f l0).bind fun t178 => ((lbts_Outputs.f (y168 ++ y171)).bind fun t181 => ((pacelinelaw18_theirs.f kj2 l0).bind fun t184 => ((pacelineref18_Outputs.f kj2 t184).bind fun t187 => (if (t178.length : Int) = (l0.length : Int) then (pacelinelaw18_LbtsTurned.j1 kj2 l0 ji9 t178 t181 t187 ((t181.length : Int) != (l0.length : Int))) else (pacelinelaw18_LbtsTurned.j1 kj2 l0 ji9 t178 t181 t187 true)))))) else (none)))) else (none)) = some r := by first | (rw [hy164]; with_reducible exact H) | (have H2_ := (Option.bind_some _ _).symm.trans H; rw [hy164]; with_reducible exact H2_) | (have H2_ := (Option.bind_some _ _).symm.trans H; with_reducible exact H2_) | with_reducible exact H | (rw [hy164]; exact H) | exact H
              have Ny164 := Aside0.mk hy164
              clear hy164
              by_cases c12 : y161.length + y164.length < 2932031007402
              · rw [if_pos c12] at H
                have LMc12 := Aside0.mk c12
                clear c12
                obtain ⟨y168, hy168⟩ : ∃ y_ : List (S30), y_ = (y161 ++ y164) := ⟨_, rfl⟩
                replace H : ((some (l0.take ((ji9) : Int).toNat : List (S30))).bind fun y171 => (if y168.length + y171.length < 2932031007402 then ((lbts_Outputs.f l0).bind fun t178 => ((lbts_Outputs.f (y168 ++ y171)).bind fun t181 => ((pacelinelaw18_theirs.f kj2 l0).bind fun t184 => ((pacelineref18_Outputs.f kj2 t184).bind fun t187 => (if (t178.length : Int) = (l0.length : Int) then (pacelinelaw18_LbtsTurned.j1 kj2 l0 ji9 t178 t181 t187 ((t181.length : Int) != (l0.length : Int))) else (pacelinelaw18_LbtsTurned.j1 kj2 l0 ji9 t178 t181 t187 true)))))) else (none))) = some r := by first | (rw [hy168]; with_reducible exact H) | (have H2_ := (Option.bind_some _ _).symm.trans H; rw [hy168]; with_reducible exact H2_) | (have H2_ := (Option.bind_some _ _).symm.trans H; with_reducible exact H2_) | with_reducible exact H | (rw [hy168]; exact H) | exact H
                have Ny168 := Aside0.mk hy168
                clear hy168
                have c13b0 := eq_true (of_decide_eq_true (by first | (with_reducible assumption) | assumption) : 0 ≤ (ji9))
                have c14b0 := eq_true (of_decide_eq_true (by first | (with_reducible assumption) | assumption) : (ji9) ≤ (l0.length : Int))
                obtain ⟨y171, hy171⟩ : ∃ y_ : List (S30), y_ = (l0.take ((ji9) : Int).toNat) := ⟨_, rfl⟩
                replace H : (if y168.length + y171.length < 2932031007402 then ((lbts_Outputs.f l0).bind fun t178 => ((lbts_Outputs.f (y168 ++ y171)).bind fun t181 => ((pacelinelaw18_theirs.f kj2 l0).bind fun t184 => ((pacelineref18_Outputs.f kj2 t184).bind fun t187 => (if (t178.length : Int) = (l0.length : Int) then (pacelinelaw18_LbtsTurned.j1 kj2 l0 ji9 t178 t181 t187 ((t181.length : Int) != (l0.length : Int))) else (pacelinelaw18_LbtsTurned.j1 kj2 l0 ji9 t178 t181 t187 true)))))) else (none)) = some r := by first | (rw [hy171]; with_reducible exact H) | (have H2_ := (Option.bind_some _ _).symm.trans H; rw [hy171]; with_reducible exact H2_) | (have H2_ := (Option.bind_some _ _).symm.trans H; with_reducible exact H2_) | with_reducible exact H | (rw [hy171]; exact H) | exact H
                have Ny171 := Aside0.mk hy171
                clear hy171
                by_cases c15 : y168.length + y171.length < 2932031007402
                · rw [if_pos c15] at H
                  have LMc15 := Aside0.mk c15
                  clear c15
                  obtain ⟨y175, hy175⟩ : ∃ y_ : List (S30), y_ = (y168 ++ y171) := ⟨_, rfl⟩
                  replace H : ((lbts_Outputs.f l0).bind fun t178 => ((lbts_Outputs.f y175).bind fun t181 => ((pacelinelaw18_theirs.f kj2 l0).bind fun t184 => ((pacelineref18_Outputs.f kj2 t184).bind fun t187 => (if (t178.length : Int) = (l0.length : Int) then (pacelinelaw18_LbtsTurned.j1 kj2 l0 ji9 t178 t181 t187 ((t181.length : Int) != (l0.length : Int))) else (pacelinelaw18_LbtsTurned.j1 kj2 l0 ji9 t178 t181 t187 true)))))) = some r := by first | (rw [hy175]; with_reducible exact H) | (have H2_ := (Option.bind_some _ _).symm.trans H; rw [hy175]; with_reducible exact H2_) | (have H2_ := (Option.bind_some _ _).symm.trans H; with_reducible exact H2_) | with_reducible exact H | (rw [hy175]; exact H) | exact H
                  have Ny175 := Aside0.mk hy175
                  clear hy175
                  replace H := Option.bind_eq_some_iff.mp H
                  obtain ⟨t178, A160, H⟩ := H
                  replace H : ((lbts_Outputs.f y175).bind fun t181 => ((pacelinelaw18_theirs.f kj2 l0).bind fun t184 => ((pacelineref18_Outputs.f kj2 t184).bind fun t187 => (if (t178.length : Int) = (l0.length : Int) then (pacelinelaw18_LbtsTurned.j1 kj2 l0 ji9 t178 t181 t187 ((t181.length : Int) != (l0.length : Int))) else (pacelinelaw18_LbtsTurned.j1 kj2 l0 ji9 t178 t181 t187 true))))) = some r := H
                  have A16 := Aside0.mk A160
                  clear A160
                  replace H := Option.bind_eq_some_iff.mp H
                  obtain ⟨t181, A170, H⟩ := H
                  replace H : ((pacelinelaw18_theirs.f kj2 l0).bind fun t184 => ((pacelineref18_Outputs.f kj2 t184).bind fun t187 => (if (t178.length : Int) = (l0.length : Int) then (pacelinelaw18_LbtsTurned.j1 kj2 l0 ji9 t178 t181 t187 ((t181.length : Int) != (l0.length : Int))) else (pacelinelaw18_LbtsTurned.j1 kj2 l0 ji9 t178 t181 t187 true)))) = some r := H
                  have A17 := Aside0.mk A170
                  clear A170
                  replace H := Option.bind_eq_some_iff.mp H
                  obtain ⟨t184, A180, H⟩ := H
                  replace H : ((pacelineref18_Outputs.f kj2 t184).bind fun t187 => (if (t178.length : Int) = (l0.length : Int) then (pacelinelaw18_LbtsTurned.j1 kj2 l0 ji9 t178 t181 t187 ((t181.length : Int) != (l0.length : Int))) else (pacelinelaw18_LbtsTurned.j1 kj2 l0 ji9 t178 t181 t187 true))) = some r := H
                  have A18 := Aside0.mk A180
                  clear A180
                  replace H := Option.bind_eq_some_iff.mp H
                  obtain ⟨t187, A190, H⟩ := H
                  replace H : (if (t178.length : Int) = (l0.length : Int) then (pacelinelaw18_LbtsTurned.j1 kj2 l0 ji9 t178 t181 t187 ((t181.length : Int) != (l0.length : Int))) else (pacelinelaw18_LbtsTurned.j1 kj2 l0 ji9 t178 t181 t187 true)) = some r := H
                  have A19 := Aside0.mk A190
                  clear A190
                  have HC20 := Aside0.mk H
                  clear H
                  go_upto_region 10 with (first | ((with_reducible refine gate_dst (N := 26) rfl ?_); (try (refine gate_guard (by rfl) ?_; dsimp only)); refine Kd.R_lit k30 _ 30 ?hg (N := 26) ?hd (xs := ([] : List (S30))) (inner := []) (ok := fun _ => True) (okp := fun _ => True) ?hr ?hp (fun _ hk => hk) trivial (Below.refl _ _) (Nat.le_refl _) (by simp) ?_; (case hd => rfl); (case hg => rfl); (case hr => first | (go_simp; done) | (go_simp; rfl)); (case hp => exact (Reps.none _ _)); intro v162 w21 ho22 hb hg_ hnew_; clear hg_ hnew_; (first | rw [← Ny161.out] at ho22 | (simp only [Int.reduceToNat] at ho22; rw [← Ny161.out] at ho22)); have n0_ := Aside0.mk (Kd.R_lower ho22 (below_size (by repeat (first | (with_reducible first | exact HB.out | apply below_alloc | apply pw_below_drewN | apply below_drew1) | exact HB.out)))); have n1_ := Aside0.mk (below_step (by repeat (first | (with_reducible first | exact HB.out | apply below_alloc | apply pw_below_drewN | apply below_drew1) | exact HB.out)) hb); clear HB; have HO163 := n0_; have HB := n1_; clear n0_ n1_; clear hb ho22; have q23 : ((ji9) : Int) ≤ ((l0.length : Int) : Int) := of_decide_eq_true (by first | (with_reducible assumption) | assumption); obtain ⟨i023, hi023, _, hsz23, _⟩ := info_parts info30; have hroom23 : l0.length ≤ c0 := HC0.out; have hC23 : Kd.C k30 _ A0 l0.length l0 := HR0.out; have q023 : (0 : Int) ≤ ((ji9) : Int) := of_decide_eq_true (by first | (with_reducible assumption) | assumption); have hcut23 := cut_from (P := Try.prog) 22 30 .i64 Try.underlying22 hi023 7 hsz23 A0 l0.length c0 (ji9) q023 q23; have hr23 := Kd.C_drop (m := ((ji9) : Int).toNat) (c := c0) hC23 (by omega) hroom23; obtain ⟨A23, hA23⟩ : ∃ A1, A1 = (if c0 = ((ji9) : Int).toNat then A0 else (A0 : Option Addr).map (·.add (((ji9) : Int).toNat * 7))) := ⟨_, rfl⟩; obtain ⟨c23, hc23⟩ : ∃ c1, c1 = c0 - ((ji9) : Int).toNat := ⟨_, rfl⟩; have hy23 : y164.length = l0.length - ((ji9) : Int).toNat := (by rw [Ny164.out, List.length_drop] <;> omega); rw [show (l0).drop ((ji9) : Int).toNat = y164 from Ny164.out.symm] at hr23; replace hr23 : Kd.C k30 _ A23 y164.length y164 := (by rw [hA23]; exact hr23); rw [← hy23, ← hA23, ← hc23] at hcut23; have HR167 := Aside0.mk hr23; have HC167 := Aside0.mk (show y164.length ≤ c23 from by rw [hy23, hc23]; exact Nat.sub_le_sub_right hroom23 _); clear hr23 hC23 hroom23 hi023 hsz23 hc23; have KY23 := Aside0.mk hy23; have KA23 := Aside0.mk hA23; clear hy23 hA23; replace q23 := eq_true q23) | ((with_reducible refine gate_builtin (b := .append) (xs := #[.tmp 27, .tmp 30]) rfl ?_); (try (refine gate_guard (by rfl) ?_; dsimp only)); at_builtin; refine Kd.R_append_rows k30 (w0 := w) w.heap.size rfl (.tmp 27) (.tmp 30) 22 30 (.agg #[(.bool false), (.bool false), (.int .i64 0), (.int .i64 0), (.int .i64 0), (.int .i64 0), (.int .i64 0)]) 48 rfl Try.underlying22 info30 rfl (by decide) (by omega) v162 y161 y164 _ _ _ (fun _ => True) (fun _ => False) rfl rfl ?aO ?aR (fun _ _ h => h) (fun _ h => h.elim) ?aF ?aB ?aS ?aL ?_; (case aR => repeat (first | exact (Kd.C_below HR167.out HB.out) | (with_reducible refine Kd.C_alloc ?_ _) | (with_reducible refine Kd.C_drewN ?_ _) | (with_reducible refine Kd.C_drew ?_))); (case aB => exact (by repeat (first | (with_reducible first | exact HB.out | apply below_alloc | apply pw_below_drewN | apply below_drew1) | exact HB.out))); (case aF => exact (fun _ _ => trivial)); (case aO => exact (by (with_reducible repeat (first | apply Kd.R_alloc | apply Kd.R_drewN | apply Kd.R_drew)); exact HO163.out)); (case aS => exact (below_size (by repeat (first | (with_reducible first | exact HB.out | apply below_alloc | apply pw_below_drewN | apply below_drew1) | exact HB.out)))); (case aL => have := LMc12.out; omega); intro v169 w24 ho hb hg hat; rw [← Ny168.out] at ho; have n0_ := Aside0.mk (hb); have n1_ := Aside0.mk (ho); clear HB; clear HO163; have HB := n0_; have HO170 := n1_; clear n0_ n1_; clear ho hb hg hat; have q25 : ((ji9) : Int) ≤ ((l0.length : Int) : Int) := of_decide_eq_true (by first | (with_reducible assumption) | assumption); obtain ⟨i025, hi025, _, hsz25, _⟩ := info_parts info30; have hroom25 : l0.length ≤ c0 := HC0.out; have hC25 : Kd.C k30 _ A0 l0.length l0 := HR0.out; have hcut25 := cut_to (P := Try.prog) 22 30 .i64 Try.underlying22 hi025 A0 l0.length c0 (ji9) (of_decide_eq_true (by first | (with_reducible assumption) | assumption)) q25 hroom25; have hr25 := Kd.C_take (m := ((ji9) : Int).toNat) hC25 (by omega); have hy25 : y171.length = ((ji9) : Int).toNat := (by rw [Ny171.out, List.length_take]; omega); rw [← Ny171.out] at hr25; rw [← hy25] at hcut25; have HR174 := Aside0.mk hr25; have HC174 := Aside0.mk (show y171.length ≤ c0 from by omega); clear hr25 hC25 hroom25 hi025 hsz25; have KY25 := Aside0.mk hy25; clear hy25; replace q25 := eq_true q25) | ((with_reducible refine gate_builtin (b := .append) (xs := #[.tmp 32, .tmp 35]) rfl ?_); (try (refine gate_guard (by rfl) ?_; dsimp only)); at_builtin; refine Kd.R_append_rows k30 (w0 := w) w.heap.size rfl (.tmp 32) (.tmp 35) 22 30 (.agg #[(.bool false), (.bool false), (.int .i64 0), (.int .i64 0), (.int .i64 0), (.int .i64 0), (.int .i64 0)]) 48 rfl Try.underlying22 info30 rfl (by decide) (by omega) v169 y168 y171 _ _ _ (fun _ => True) (fun _ => False) rfl rfl ?aO ?aR (fun _ _ h => h) (fun _ h => h.elim) ?aF ?aB ?aS ?aL ?_; (case aR => repeat (first | exact (Kd.C_below HR174.out HB.out) | (with_reducible refine Kd.C_alloc ?_ _) | (with_reducible refine Kd.C_drewN ?_ _) | (with_reducible refine Kd.C_drew ?_))); (case aB => exact (by repeat (first | (with_reducible first | exact HB.out | apply below_alloc | apply pw_below_drewN | apply below_drew1) | exact HB.out))); (case aF => exact (fun _ _ => trivial)); (case aO => exact (by (with_reducible repeat (first | apply Kd.R_alloc | apply Kd.R_drewN | apply Kd.R_drew)); exact HO170.out)); (case aS => exact (below_size (by repeat (first | (with_reducible first | exact HB.out | apply below_alloc | apply pw_below_drewN | apply below_drew1) | exact HB.out)))); (case aL => have := LMc15.out; omega); intro v176 w26 ho hb hg hat; rw [← Ny175.out] at ho; have n0_ := Aside0.mk (hb); have n1_ := Aside0.mk (ho); clear HB; clear HO170; have HB := n0_; have HO177 := n1_; clear n0_ n1_; clear ho hb hg hat) | (go_at_call 9; (with_reducible refine (lbts_Outputs.calls _ _ l0 t178 _ ?side1 ?side2 A16.out).mono ?_); (case side1 => repeat (first | exact (Kd.C_below HR0.out HB.out) | (with_reducible refine Kd.C_alloc ?_ _) | (with_reducible refine Kd.C_drewN ?_ _) | (with_reducible refine Kd.C_drew ?_))); (case side2 => exact HC0.out); rintro e w27 ⟨v179, rfl, ho0, hb⟩; have n0_ := Aside0.mk (Kd.R_below (by (with_reducible repeat (first | apply Kd.R_alloc | apply Kd.R_drewN | apply Kd.R_drew)); exact HO177.out) hb); have n1_ := Aside0.mk (Kd.R_lower ho0 (below_size (by repeat (first | (with_reducible first | exact HB.out | apply below_alloc | apply pw_below_drewN | apply below_drew1) | exact HB.out)))); have n2_ := Aside0.mk (below_step (by repeat (first | (with_reducible first | exact HB.out | apply below_alloc | apply pw_below_drewN | apply below_drew1) | exact HB.out)) hb); clear HO177; clear HB; have HO177 := n0_; have HO180 := n1_; have HB := n2_; clear n0_ n1_ n2_; (try clear hb); (try clear hb2); (try clear hk); (try clear hi); (try clear ho0); obtain ⟨Ao28, co28, eo28⟩ := Kd.R_slice HO177.out; subst eo28) | (go_at_call 9; (with_reducible refine (lbts_Outputs.calls _ _ y175 t181 _ ?side1 ?side2 A17.out).mono ?_); (case side1 => repeat (first | exact (Kd.R_reads' HO177.out).2.2 | (with_reducible refine Kd.C_alloc ?_ _) | (with_reducible refine Kd.C_drewN ?_ _) | (with_reducible refine Kd.C_drew ?_))); (case side2 => exact (Kd.R_reads' HO177.out).2.1); rintro e w29 ⟨v182, rfl, ho0, hb⟩; have n0_ := Aside0.mk (Kd.R_below (by (with_reducible repeat (first | apply Kd.R_alloc | apply Kd.R_drewN | apply Kd.R_drew)); exact HO177.out) hb); have n1_ := Aside0.mk (Kd.R_elder' (by (with_reducible repeat (first | apply Kd.R_alloc | apply Kd.R_drewN | apply Kd.R_drew)); exact HO180.out) (Kd.R_base ho0) hb); have n2_ := Aside0.mk (Kd.R_lower (Kd.R_new' ho0 (Kd.R_lt (by (with_reducible repeat (first | apply Kd.R_alloc | apply Kd.R_drewN | apply Kd.R_drew)); exact HO180.out))) (below_size (by repeat (first | (with_reducible first | exact HB.out | apply below_alloc | apply pw_below_drewN | apply below_drew1) | exact HB.out)))); have n3_ := Aside0.mk (below_step (by repeat (first | (with_reducible first | exact HB.out | apply below_alloc | apply pw_below_drewN | apply below_drew1) | exact HB.out)) hb); clear HO177; clear HO180; clear HB; have HO177 := n0_; have HO180 := n1_; have HO183 := n2_; have HB := n3_; clear n0_ n1_ n2_ n3_; (try clear hb); (try clear hb2); (try clear hk); (try clear hi); (try clear ho0)) | (go_at_call 11; (with_reducible refine (pacelinelaw18_theirs.calls kj2 _ _ l0 t184 _ ?side1 ?side2 A18.out).mono ?_); (case side1 => repeat (first | exact (Kd.C_below HR0.out HB.out) | (with_reducible refine Kd.C_alloc ?_ _) | (with_reducible refine Kd.C_drewN ?_ _) | (with_reducible refine Kd.C_drew ?_))); (case side2 => exact HC0.out); rintro e w30 ⟨v185, rfl, ho0, hb⟩; have n0_ := Aside0.mk (Kd.R_below (by (with_reducible repeat (first | apply Kd.R_alloc | apply Kd.R_drewN | apply Kd.R_drew)); exact HO177.out) hb); have n1_ := Aside0.mk (Kd.R_below (by (with_reducible repeat (first | apply Kd.R_alloc | apply Kd.R_drewN | apply Kd.R_drew)); exact HO180.out) hb); have n2_ := Aside0.mk (Kd.R_below (by (with_reducible repeat (first | apply Kd.R_alloc | apply Kd.R_drewN | apply Kd.R_drew)); exact HO183.out) hb); have n3_ := Aside0.mk (Kd.R_lower ho0 (below_size (by repeat (first | (with_reducible first | exact HB.out | apply below_alloc | apply pw_below_drewN | apply below_drew1) | exact HB.out)))); have n4_ := Aside0.mk (below_step (by repeat (first | (with_reducible first | exact HB.out | apply below_alloc | apply pw_below_drewN | apply below_drew1) | exact HB.out)) hb); clear HO177; clear HO180; clear HO183; clear HB; have HO177 := n0_; have HO180 := n1_; have HO183 := n2_; have HO186 := n3_; have HB := n4_; clear n0_ n1_ n2_ n3_ n4_; (try clear hb); (try clear hb2); (try clear hk); (try clear hi); (try clear ho0); obtain ⟨Ao31, co31, eo31⟩ := Kd.R_slice HO186.out; subst eo31) | (go_at_call 10; (with_reducible refine (pacelineref18_Outputs.calls kj2 _ _ t184 t187 _ ?side1 ?side2 A19.out).mono ?_); (case side1 => repeat (first | exact (Kd.R_reads' HO186.out).2.2 | (with_reducible refine Kd.C_alloc ?_ _) | (with_reducible refine Kd.C_drewN ?_ _) | (with_reducible refine Kd.C_drew ?_))); (case side2 => exact (Kd.R_reads' HO186.out).2.1); rintro e w32 ⟨v188, rfl, ho0, hb⟩; have n0_ := Aside0.mk (Kd.R_below (by (with_reducible repeat (first | apply Kd.R_alloc | apply Kd.R_drewN | apply Kd.R_drew)); exact HO177.out) hb); have n1_ := Aside0.mk (Kd.R_elder' (by (with_reducible repeat (first | apply Kd.R_alloc | apply Kd.R_drewN | apply Kd.R_drew)); exact HO180.out) (Kd.R_base ho0) hb); have n2_ := Aside0.mk (Kd.R_elder' (by (with_reducible repeat (first | apply Kd.R_alloc | apply Kd.R_drewN | apply Kd.R_drew)); exact HO183.out) (Kd.R_base ho0) hb); have n3_ := Aside0.mk (Kd.R_below (by (with_reducible repeat (first | apply Kd.R_alloc | apply Kd.R_drewN | apply Kd.R_drew)); exact HO186.out) hb); have n4_ := Aside0.mk (Kd.R_lower (Kd.R_new' (Kd.R_new' ho0 (Kd.R_lt (by (with_reducible repeat (first | apply Kd.R_alloc | apply Kd.R_drewN | apply Kd.R_drew)); exact HO180.out))) (Kd.R_lt (by (with_reducible repeat (first | apply Kd.R_alloc | apply Kd.R_drewN | apply Kd.R_drew)); exact HO183.out))) (below_size (by repeat (first | (with_reducible first | exact HB.out | apply below_alloc | apply pw_below_drewN | apply below_drew1) | exact HB.out)))); have n5_ := Aside0.mk (below_step (by repeat (first | (with_reducible first | exact HB.out | apply below_alloc | apply pw_below_drewN | apply below_drew1) | exact HB.out)) hb); clear HO177; clear HO180; clear HO183; clear HO186; clear HB; have HO177 := n0_; have HO180 := n1_; have HO183 := n2_; have HO186 := n3_; have HO189 := n4_; have HB := n5_; clear n0_ n1_ n2_ n3_ n4_ n5_; (try clear hb); (try clear hb2); (try clear hk); (try clear hi); (try clear ho0)))
                  repeat (go_quiet (first | ((with_reducible refine gate_dst (N := 26) rfl ?_); (try (refine gate_guard (by rfl) ?_; dsimp only)); refine Kd.R_lit k30 _ 30 ?hg (N := 26) ?hd (xs := ([] : List (S30))) (inner := []) (ok := fun _ => True) (okp := fun _ => True) ?hr ?hp (fun _ hk => hk) trivial (Below.refl _ _) (Nat.le_refl _) (by simp) ?_; (case hd => rfl); (case hg => rfl); (case hr => first | (go_simp; done) | (go_simp; rfl)); (case hp => exact (Reps.none _ _)); intro v162 w21 ho22 hb hg_ hnew_; clear hg_ hnew_; (first | rw [← Ny161.out] at ho22 | (simp only [Int.reduceToNat] at ho22; rw [← Ny161.out] at ho22)); have n0_ := Aside0.mk (Kd.R_lower ho22 (below_size (by repeat (first | (with_reducible first | exact HB.out | apply below_alloc | apply pw_below_drewN | apply below_drew1) | exact HB.out)))); have n1_ := Aside0.mk (below_step (by repeat (first | (with_reducible first | exact HB.out | apply below_alloc | apply pw_below_drewN | apply below_drew1) | exact HB.out)) hb); clear HB; have HO163 := n0_; have HB := n1_; clear n0_ n1_; clear hb ho22; have q23 : ((ji9) : Int) ≤ ((l0.length : Int) : Int) := of_decide_eq_true (by first | (with_reducible assumption) | assumption); obtain ⟨i023, hi023, _, hsz23, _⟩ := info_parts info30; have hroom23 : l0.length ≤ c0 := HC0.out; have hC23 : Kd.C k30 _ A0 l0.length l0 := HR0.out; have q023 : (0 : Int) ≤ ((ji9) : Int) := of_decide_eq_true (by first | (with_reducible assumption) | assumption); have hcut23 := cut_from (P := Try.prog) 22 30 .i64 Try.underlying22 hi023 7 hsz23 A0 l0.length c0 (ji9) q023 q23; have hr23 := Kd.C_drop (m := ((ji9) : Int).toNat) (c := c0) hC23 (by omega) hroom23; obtain ⟨A23, hA23⟩ : ∃ A1, A1 = (if c0 = ((ji9) : Int).toNat then A0 else (A0 : Option Addr).map (·.add (((ji9) : Int).toNat * 7))) := ⟨_, rfl⟩; obtain ⟨c23, hc23⟩ : ∃ c1, c1 = c0 - ((ji9) : Int).toNat := ⟨_, rfl⟩; have hy23 : y164.length = l0.length - ((ji9) : Int).toNat := (by rw [Ny164.out, List.length_drop] <;> omega); rw [show (l0).drop ((ji9) : Int).toNat = y164 from Ny164.out.symm] at hr23; replace hr23 : Kd.C k30 _ A23 y164.length y164 := (by rw [hA23]; exact hr23); rw [← hy23, ← hA23, ← hc23] at hcut23; have HR167 := Aside0.mk hr23; have HC167 := Aside0.mk (show y164.length ≤ c23 from by rw [hy23, hc23]; exact Nat.sub_le_sub_right hroom23 _); clear hr23 hC23 hroom23 hi023 hsz23 hc23; have KY23 := Aside0.mk hy23; have KA23 := Aside0.mk hA23; clear hy23 hA23; replace q23 := eq_true q23) | ((with_reducible refine gate_builtin (b := .append) (xs := #[.tmp 27, .tmp 30]) rfl ?_); (try (refine gate_guard (by rfl) ?_; dsimp only)); at_builtin; refine Kd.R_append_rows k30 (w0 := w) w.heap.size rfl (.tmp 27) (.tmp 30) 22 30 (.agg #[(.bool false), (.bool false), (.int .i64 0), (.int .i64 0), (.int .i64 0), (.int .i64 0), (.int .i64 0)]) 48 rfl Try.underlying22 info30 rfl (by decide) (by omega) v162 y161 y164 _ _ _ (fun _ => True) (fun _ => False) rfl rfl ?aO ?aR (fun _ _ h => h) (fun _ h => h.elim) ?aF ?aB ?aS ?aL ?_; (case aR => repeat (first | exact (Kd.C_below HR167.out HB.out) | (with_reducible refine Kd.C_alloc ?_ _) | (with_reducible refine Kd.C_drewN ?_ _) | (with_reducible refine Kd.C_drew ?_))); (case aB => exact (by repeat (first | (with_reducible first | exact HB.out | apply below_alloc | apply pw_below_drewN | apply below_drew1) | exact HB.out))); (case aF => exact (fun _ _ => trivial)); (case aO => exact (by (with_reducible repeat (first | apply Kd.R_alloc | apply Kd.R_drewN | apply Kd.R_drew)); exact HO163.out)); (case aS => exact (below_size (by repeat (first | (with_reducible first | exact HB.out | apply below_alloc | apply pw_below_drewN | apply below_drew1) | exact HB.out)))); (case aL => have := LMc12.out; omega); intro v169 w24 ho hb hg hat; rw [← Ny168.out] at ho; have n0_ := Aside0.mk (hb); have n1_ := Aside0.mk (ho); clear HB; clear HO163; have HB := n0_; have HO170 := n1_; clear n0_ n1_; clear ho hb hg hat; have q25 : ((ji9) : Int) ≤ ((l0.length : Int) : Int) := of_decide_eq_true (by first | (with_reducible assumption) | assumption); obtain ⟨i025, hi025, _, hsz25, _⟩ := info_parts info30; have hroom25 : l0.length ≤ c0 := HC0.out; have hC25 : Kd.C k30 _ A0 l0.length l0 := HR0.out; have hcut25 := cut_to (P := Try.prog) 22 30 .i64 Try.underlying22 hi025 A0 l0.length c0 (ji9) (of_decide_eq_true (by first | (with_reducible assumption) | assumption)) q25 hroom25; have hr25 := Kd.C_take (m := ((ji9) : Int).toNat) hC25 (by omega); have hy25 : y171.length = ((ji9) : Int).toNat := (by rw [Ny171.out, List.length_take]; omega); rw [← Ny171.out] at hr25; rw [← hy25] at hcut25; have HR174 := Aside0.mk hr25; have HC174 := Aside0.mk (show y171.length ≤ c0 from by omega); clear hr25 hC25 hroom25 hi025 hsz25; have KY25 := Aside0.mk hy25; clear hy25; replace q25 := eq_true q25) | ((with_reducible refine gate_builtin (b := .append) (xs := #[.tmp 32, .tmp 35]) rfl ?_); (try (refine gate_guard (by rfl) ?_; dsimp only)); at_builtin; refine Kd.R_append_rows k30 (w0 := w) w.heap.size rfl (.tmp 32) (.tmp 35) 22 30 (.agg #[(.bool false), (.bool false), (.int .i64 0), (.int .i64 0), (.int .i64 0), (.int .i64 0), (.int .i64 0)]) 48 rfl Try.underlying22 info30 rfl (by decide) (by omega) v169 y168 y171 _ _ _ (fun _ => True) (fun _ => False) rfl rfl ?aO ?aR (fun _ _ h => h) (fun _ h => h.elim) ?aF ?aB ?aS ?aL ?_; (case aR => repeat (first | exact (Kd.C_below HR174.out HB.out) | (with_reducible refine Kd.C_alloc ?_ _) | (with_reducible refine Kd.C_drewN ?_ _) | (with_reducible refine Kd.C_drew ?_))); (case aB => exact (by repeat (first | (with_reducible first | exact HB.out | apply below_alloc | apply pw_below_drewN | apply below_drew1) | exact HB.out))); (case aF => exact (fun _ _ => trivial)); (case aO => exact (by (with_reducible repeat (first | apply Kd.R_alloc | apply Kd.R_drewN | apply Kd.R_drew)); exact HO170.out)); (case aS => exact (below_size (by repeat (first | (with_reducible first | exact HB.out | apply below_alloc | apply pw_below_drewN | apply below_drew1) | exact HB.out)))); (case aL => have := LMc15.out; omega); intro v176 w26 ho hb hg hat; rw [← Ny175.out] at ho; have n0_ := Aside0.mk (hb); have n1_ := Aside0.mk (ho); clear HB; clear HO170; have HB := n0_; have HO177 := n1_; clear n0_ n1_; clear ho hb hg hat) | (go_at_call 9; (with_reducible refine (lbts_Outputs.calls _ _ l0 t178 _ ?side1 ?side2 A16.out).mono ?_); (case side1 => repeat (first | exact (Kd.C_below HR0.out HB.out) | (with_reducible refine Kd.C_alloc ?_ _) | (with_reducible refine Kd.C_drewN ?_ _) | (with_reducible refine Kd.C_drew ?_))); (case side2 => exact HC0.out); rintro e w27 ⟨v179, rfl, ho0, hb⟩; have n0_ := Aside0.mk (Kd.R_below (by (with_reducible repeat (first | apply Kd.R_alloc | apply Kd.R_drewN | apply Kd.R_drew)); exact HO177.out) hb); have n1_ := Aside0.mk (Kd.R_lower ho0 (below_size (by repeat (first | (with_reducible first | exact HB.out | apply below_alloc | apply pw_below_drewN | apply below_drew1) | exact HB.out)))); have n2_ := Aside0.mk (below_step (by repeat (first | (with_reducible first | exact HB.out | apply below_alloc | apply pw_below_drewN | apply below_drew1) | exact HB.out)) hb); clear HO177; clear HB; have HO177 := n0_; have HO180 := n1_; have HB := n2_; clear n0_ n1_ n2_; (try clear hb); (try clear hb2); (try clear hk); (try clear hi); (try clear ho0); obtain ⟨Ao28, co28, eo28⟩ := Kd.R_slice HO177.out; subst eo28) | (go_at_call 9; (with_reducible refine (lbts_Outputs.calls _ _ y175 t181 _ ?side1 ?side2 A17.out).mono ?_); (case side1 => repeat (first | exact (Kd.R_reads' HO177.out).2.2 | (with_reducible refine Kd.C_alloc ?_ _) | (with_reducible refine Kd.C_drewN ?_ _) | (with_reducible refine Kd.C_drew ?_))); (case side2 => exact (Kd.R_reads' HO177.out).2.1); rintro e w29 ⟨v182, rfl, ho0, hb⟩; have n0_ := Aside0.mk (Kd.R_below (by (with_reducible repeat (first | apply Kd.R_alloc | apply Kd.R_drewN | apply Kd.R_drew)); exact HO177.out) hb); have n1_ := Aside0.mk (Kd.R_elder' (by (with_reducible repeat (first | apply Kd.R_alloc | apply Kd.R_drewN | apply Kd.R_drew)); exact HO180.out) (Kd.R_base ho0) hb); have n2_ := Aside0.mk (Kd.R_lower (Kd.R_new' ho0 (Kd.R_lt (by (with_reducible repeat (first | apply Kd.R_alloc | apply Kd.R_drewN | apply Kd.R_drew)); exact HO180.out))) (below_size (by repeat (first | (with_reducible first | exact HB.out | apply below_alloc | apply pw_below_drewN | apply below_drew1) | exact HB.out)))); have n3_ := Aside0.mk (below_step (by repeat (first | (with_reducible first | exact HB.out | apply below_alloc | apply pw_below_drewN | apply below_drew1) | exact HB.out)) hb); clear HO177; clear HO180; clear HB; have HO177 := n0_; have HO180 := n1_; have HO183 := n2_; have HB := n3_; clear n0_ n1_ n2_ n3_; (try clear hb); (try clear hb2); (try clear hk); (try clear hi); (try clear ho0)) | (go_at_call 11; (with_reducible refine (pacelinelaw18_theirs.calls kj2 _ _ l0 t184 _ ?side1 ?side2 A18.out).mono ?_); (case side1 => repeat (first | exact (Kd.C_below HR0.out HB.out) | (with_reducible refine Kd.C_alloc ?_ _) | (with_reducible refine Kd.C_drewN ?_ _) | (with_reducible refine Kd.C_drew ?_))); (case side2 => exact HC0.out); rintro e w30 ⟨v185, rfl, ho0, hb⟩; have n0_ := Aside0.mk (Kd.R_below (by (with_reducible repeat (first | apply Kd.R_alloc | apply Kd.R_drewN | apply Kd.R_drew)); exact HO177.out) hb); have n1_ := Aside0.mk (Kd.R_below (by (with_reducible repeat (first | apply Kd.R_alloc | apply Kd.R_drewN | apply Kd.R_drew)); exact HO180.out) hb); have n2_ := Aside0.mk (Kd.R_below (by (with_reducible repeat (first | apply Kd.R_alloc | apply Kd.R_drewN | apply Kd.R_drew)); exact HO183.out) hb); have n3_ := Aside0.mk (Kd.R_lower ho0 (below_size (by repeat (first | (with_reducible first | exact HB.out | apply below_alloc | apply pw_below_drewN | apply below_drew1) | exact HB.out)))); have n4_ := Aside0.mk (below_step (by repeat (first | (with_reducible first | exact HB.out | apply below_alloc | apply pw_below_drewN | apply below_drew1) | exact HB.out)) hb); clear HO177; clear HO180; clear HO183; clear HB; have HO177 := n0_; have HO180 := n1_; have HO183 := n2_; have HO186 := n3_; have HB := n4_; clear n0_ n1_ n2_ n3_ n4_; (try clear hb); (try clear hb2); (try clear hk); (try clear hi); (try clear ho0); obtain ⟨Ao31, co31, eo31⟩ := Kd.R_slice HO186.out; subst eo31) | (go_at_call 10; (with_reducible refine (pacelineref18_Outputs.calls kj2 _ _ t184 t187 _ ?side1 ?side2 A19.out).mono ?_); (case side1 => repeat (first | exact (Kd.R_reads' HO186.out).2.2 | (with_reducible refine Kd.C_alloc ?_ _) | (with_reducible refine Kd.C_drewN ?_ _) | (with_reducible refine Kd.C_drew ?_))); (case side2 => exact (Kd.R_reads' HO186.out).2.1); rintro e w32 ⟨v188, rfl, ho0, hb⟩; have n0_ := Aside0.mk (Kd.R_below (by (with_reducible repeat (first | apply Kd.R_alloc | apply Kd.R_drewN | apply Kd.R_drew)); exact HO177.out) hb); have n1_ := Aside0.mk (Kd.R_elder' (by (with_reducible repeat (first | apply Kd.R_alloc | apply Kd.R_drewN | apply Kd.R_drew)); exact HO180.out) (Kd.R_base ho0) hb); have n2_ := Aside0.mk (Kd.R_elder' (by (with_reducible repeat (first | apply Kd.R_alloc | apply Kd.R_drewN | apply Kd.R_drew)); exact HO183.out) (Kd.R_base ho0) hb); have n3_ := Aside0.mk (Kd.R_below (by (with_reducible repeat (first | apply Kd.R_alloc | apply Kd.R_drewN | apply Kd.R_drew)); exact HO186.out) hb); have n4_ := Aside0.mk (Kd.R_lower (Kd.R_new' (Kd.R_new' ho0 (Kd.R_lt (by (with_reducible repeat (first | apply Kd.R_alloc | apply Kd.R_drewN | apply Kd.R_drew)); exact HO180.out))) (Kd.R_lt (by (with_reducible repeat (first | apply Kd.R_alloc | apply Kd.R_drewN | apply Kd.R_drew)); exact HO183.out))) (below_size (by repeat (first | (with_reducible first | exact HB.out | apply below_alloc | apply pw_below_drewN | apply below_drew1) | exact HB.out)))); have n5_ := Aside0.mk (below_step (by repeat (first | (with_reducible first | exact HB.out | apply below_alloc | apply pw_below_drewN | apply below_drew1) | exact HB.out)) hb); clear HO177; clear HO180; clear HO183; clear HO186; clear HB; have HO177 := n0_; have HO180 := n1_; have HO183 := n2_; have HO186 := n3_; have HO189 := n4_; have HB := n5_; clear n0_ n1_ n2_ n3_ n4_ n5_; (try clear hb); (try clear hb2); (try clear hk); (try clear hi); (try clear ho0))); go_upto_region 10 with (first | ((with_reducible refine gate_dst (N := 26) rfl ?_); (try (refine gate_guard (by rfl) ?_; dsimp only)); refine Kd.R_lit k30 _ 30 ?hg (N := 26) ?hd (xs := ([] : List (S30))) (inner := []) (ok := fun _ => True) (okp := fun _ => True) ?hr ?hp (fun _ hk => hk) trivial (Below.refl _ _) (Nat.le_refl _) (by simp) ?_; (case hd => rfl); (case hg => rfl); (case hr => first | (go_simp; done) | (go_simp; rfl)); (case hp => exact (Reps.none _ _)); intro v162 w21 ho22 hb hg_ hnew_; clear hg_ hnew_; (first | rw [← Ny161.out] at ho22 | (simp only [Int.reduceToNat] at ho22; rw [← Ny161.out] at ho22)); have n0_ := Aside0.mk (Kd.R_lower ho22 (below_size (by repeat (first | (with_reducible first | exact HB.out | apply below_alloc | apply pw_below_drewN | apply below_drew1) | exact HB.out)))); have n1_ := Aside0.mk (below_step (by repeat (first | (with_reducible first | exact HB.out | apply below_alloc | apply pw_below_drewN | apply below_drew1) | exact HB.out)) hb); clear HB; have HO163 := n0_; have HB := n1_; clear n0_ n1_; clear hb ho22; have q23 : ((ji9) : Int) ≤ ((l0.length : Int) : Int) := of_decide_eq_true (by first | (with_reducible assumption) | assumption); obtain ⟨i023, hi023, _, hsz23, _⟩ := info_parts info30; have hroom23 : l0.length ≤ c0 := HC0.out; have hC23 : Kd.C k30 _ A0 l0.length l0 := HR0.out; have q023 : (0 : Int) ≤ ((ji9) : Int) := of_decide_eq_true (by first | (with_reducible assumption) | assumption); have hcut23 := cut_from (P := Try.prog) 22 30 .i64 Try.underlying22 hi023 7 hsz23 A0 l0.length c0 (ji9) q023 q23; have hr23 := Kd.C_drop (m := ((ji9) : Int).toNat) (c := c0) hC23 (by omega) hroom23; obtain ⟨A23, hA23⟩ : ∃ A1, A1 = (if c0 = ((ji9) : Int).toNat then A0 else (A0 : Option Addr).map (·.add (((ji9) : Int).toNat * 7))) := ⟨_, rfl⟩; obtain ⟨c23, hc23⟩ : ∃ c1, c1 = c0 - ((ji9) : Int).toNat := ⟨_, rfl⟩; have hy23 : y164.length = l0.length - ((ji9) : Int).toNat := (by rw [Ny164.out, List.length_drop] <;> omega); rw [show (l0).drop ((ji9) : Int).toNat = y164 from Ny164.out.symm] at hr23; replace hr23 : Kd.C k30 _ A23 y164.length y164 := (by rw [hA23]; exact hr23); rw [← hy23, ← hA23, ← hc23] at hcut23; have HR167 := Aside0.mk hr23; have HC167 := Aside0.mk (show y164.length ≤ c23 from by rw [hy23, hc23]; exact Nat.sub_le_sub_right hroom23 _); clear hr23 hC23 hroom23 hi023 hsz23 hc23; have KY23 := Aside0.mk hy23; have KA23 := Aside0.mk hA23; clear hy23 hA23; replace q23 := eq_true q23) | ((with_reducible refine gate_builtin (b := .append) (xs := #[.tmp 27, .tmp 30]) rfl ?_); (try (refine gate_guard (by rfl) ?_; dsimp only)); at_builtin; refine Kd.R_append_rows k30 (w0 := w) w.heap.size rfl (.tmp 27) (.tmp 30) 22 30 (.agg #[(.bool false), (.bool false), (.int .i64 0), (.int .i64 0), (.int .i64 0), (.int .i64 0), (.int .i64 0)]) 48 rfl Try.underlying22 info30 rfl (by decide) (by omega) v162 y161 y164 _ _ _ (fun _ => True) (fun _ => False) rfl rfl ?aO ?aR (fun _ _ h => h) (fun _ h => h.elim) ?aF ?aB ?aS ?aL ?_; (case aR => repeat (first | exact (Kd.C_below HR167.out HB.out) | (with_reducible refine Kd.C_alloc ?_ _) | (with_reducible refine Kd.C_drewN ?_ _) | (with_reducible refine Kd.C_drew ?_))); (case aB => exact (by repeat (first | (with_reducible first | exact HB.out | apply below_alloc | apply pw_below_drewN | apply below_drew1) | exact HB.out))); (case aF => exact (fun _ _ => trivial)); (case aO => exact (by (with_reducible repeat (first | apply Kd.R_alloc | apply Kd.R_drewN | apply Kd.R_drew)); exact HO163.out)); (case aS => exact (below_size (by repeat (first | (with_reducible first | exact HB.out | apply below_alloc | apply pw_below_drewN | apply below_drew1) | exact HB.out)))); (case aL => have := LMc12.out; omega); intro v169 w24 ho hb hg hat; rw [← Ny168.out] at ho; have n0_ := Aside0.mk (hb); have n1_ := Aside0.mk (ho); clear HB; clear HO163; have HB := n0_; have HO170 := n1_; clear n0_ n1_; clear ho hb hg hat; have q25 : ((ji9) : Int) ≤ ((l0.length : Int) : Int) := of_decide_eq_true (by first | (with_reducible assumption) | assumption); obtain ⟨i025, hi025, _, hsz25, _⟩ := info_parts info30; have hroom25 : l0.length ≤ c0 := HC0.out; have hC25 : Kd.C k30 _ A0 l0.length l0 := HR0.out; have hcut25 := cut_to (P := Try.prog) 22 30 .i64 Try.underlying22 hi025 A0 l0.length c0 (ji9) (of_decide_eq_true (by first | (with_reducible assumption) | assumption)) q25 hroom25; have hr25 := Kd.C_take (m := ((ji9) : Int).toNat) hC25 (by omega); have hy25 : y171.length = ((ji9) : Int).toNat := (by rw [Ny171.out, List.length_take]; omega); rw [← Ny171.out] at hr25; rw [← hy25] at hcut25; have HR174 := Aside0.mk hr25; have HC174 := Aside0.mk (show y171.length ≤ c0 from by omega); clear hr25 hC25 hroom25 hi025 hsz25; have KY25 := Aside0.mk hy25; clear hy25; replace q25 := eq_true q25) | ((with_reducible refine gate_builtin (b := .append) (xs := #[.tmp 32, .tmp 35]) rfl ?_); (try (refine gate_guard (by rfl) ?_; dsimp only)); at_builtin; refine Kd.R_append_rows k30 (w0 := w) w.heap.size rfl (.tmp 32) (.tmp 35) 22 30 (.agg #[(.bool false), (.bool false), (.int .i64 0), (.int .i64 0), (.int .i64 0), (.int .i64 0), (.int .i64 0)]) 48 rfl Try.underlying22 info30 rfl (by decide) (by omega) v169 y168 y171 _ _ _ (fun _ => True) (fun _ => False) rfl rfl ?aO ?aR (fun _ _ h => h) (fun _ h => h.elim) ?aF ?aB ?aS ?aL ?_; (case aR => repeat (first | exact (Kd.C_below HR174.out HB.out) | (with_reducible refine Kd.C_alloc ?_ _) | (with_reducible refine Kd.C_drewN ?_ _) | (with_reducible refine Kd.C_drew ?_))); (case aB => exact (by repeat (first | (with_reducible first | exact HB.out | apply below_alloc | apply pw_below_drewN | apply below_drew1) | exact HB.out))); (case aF => exact (fun _ _ => trivial)); (case aO => exact (by (with_reducible repeat (first | apply Kd.R_alloc | apply Kd.R_drewN | apply Kd.R_drew)); exact HO170.out)); (case aS => exact (below_size (by repeat (first | (with_reducible first | exact HB.out | apply below_alloc | apply pw_below_drewN | apply below_drew1) | exact HB.out)))); (case aL => have := LMc15.out; omega); intro v176 w26 ho hb hg hat; rw [← Ny175.out] at ho; have n0_ := Aside0.mk (hb); have n1_ := Aside0.mk (ho); clear HB; clear HO170; have HB := n0_; have HO177 := n1_; clear n0_ n1_; clear ho hb hg hat) | (go_at_call 9; (with_reducible refine (lbts_Outputs.calls _ _ l0 t178 _ ?side1 ?side2 A16.out).mono ?_); (case side1 => repeat (first | exact (Kd.C_below HR0.out HB.out) | (with_reducible refine Kd.C_alloc ?_ _) | (with_reducible refine Kd.C_drewN ?_ _) | (with_reducible refine Kd.C_drew ?_))); (case side2 => exact HC0.out); rintro e w27 ⟨v179, rfl, ho0, hb⟩; have n0_ := Aside0.mk (Kd.R_below (by (with_reducible repeat (first | apply Kd.R_alloc | apply Kd.R_drewN | apply Kd.R_drew)); exact HO177.out) hb); have n1_ := Aside0.mk (Kd.R_lower ho0 (below_size (by repeat (first | (with_reducible first | exact HB.out | apply below_alloc | apply pw_below_drewN | apply below_drew1) | exact HB.out)))); have n2_ := Aside0.mk (below_step (by repeat (first | (with_reducible first | exact HB.out | apply below_alloc | apply pw_below_drewN | apply below_drew1) | exact HB.out)) hb); clear HO177; clear HB; have HO177 := n0_; have HO180 := n1_; have HB := n2_; clear n0_ n1_ n2_; (try clear hb); (try clear hb2); (try clear hk); (try clear hi); (try clear ho0); obtain ⟨Ao28, co28, eo28⟩ := Kd.R_slice HO177.out; subst eo28) | (go_at_call 9; (with_reducible refine (lbts_Outputs.calls _ _ y175 t181 _ ?side1 ?side2 A17.out).mono ?_); (case side1 => repeat (first | exact (Kd.R_reads' HO177.out).2.2 | (with_reducible refine Kd.C_alloc ?_ _) | (with_reducible refine Kd.C_drewN ?_ _) | (with_reducible refine Kd.C_drew ?_))); (case side2 => exact (Kd.R_reads' HO177.out).2.1); rintro e w29 ⟨v182, rfl, ho0, hb⟩; have n0_ := Aside0.mk (Kd.R_below (by (with_reducible repeat (first | apply Kd.R_alloc | apply Kd.R_drewN | apply Kd.R_drew)); exact HO177.out) hb); have n1_ := Aside0.mk (Kd.R_elder' (by (with_reducible repeat (first | apply Kd.R_alloc | apply Kd.R_drewN | apply Kd.R_drew)); exact HO180.out) (Kd.R_base ho0) hb); have n2_ := Aside0.mk (Kd.R_lower (Kd.R_new' ho0 (Kd.R_lt (by (with_reducible repeat (first | apply Kd.R_alloc | apply Kd.R_drewN | apply Kd.R_drew)); exact HO180.out))) (below_size (by repeat (first | (with_reducible first | exact HB.out | apply below_alloc | apply pw_below_drewN | apply below_drew1) | exact HB.out)))); have n3_ := Aside0.mk (below_step (by repeat (first | (with_reducible first | exact HB.out | apply below_alloc | apply pw_below_drewN | apply below_drew1) | exact HB.out)) hb); clear HO177; clear HO180; clear HB; have HO177 := n0_; have HO180 := n1_; have HO183 := n2_; have HB := n3_; clear n0_ n1_ n2_ n3_; (try clear hb); (try clear hb2); (try clear hk); (try clear hi); (try clear ho0)) | (go_at_call 11; (with_reducible refine (pacelinelaw18_theirs.calls kj2 _ _ l0 t184 _ ?side1 ?side2 A18.out).mono ?_); (case side1 => repeat (first | exact (Kd.C_below HR0.out HB.out) | (with_reducible refine Kd.C_alloc ?_ _) | (with_reducible refine Kd.C_drewN ?_ _) | (with_reducible refine Kd.C_drew ?_))); (case side2 => exact HC0.out); rintro e w30 ⟨v185, rfl, ho0, hb⟩; have n0_ := Aside0.mk (Kd.R_below (by (with_reducible repeat (first | apply Kd.R_alloc | apply Kd.R_drewN | apply Kd.R_drew)); exact HO177.out) hb); have n1_ := Aside0.mk (Kd.R_below (by (with_reducible repeat (first | apply Kd.R_alloc | apply Kd.R_drewN | apply Kd.R_drew)); exact HO180.out) hb); have n2_ := Aside0.mk (Kd.R_below (by (with_reducible repeat (first | apply Kd.R_alloc | apply Kd.R_drewN | apply Kd.R_drew)); exact HO183.out) hb); have n3_ := Aside0.mk (Kd.R_lower ho0 (below_size (by repeat (first | (with_reducible first | exact HB.out | apply below_alloc | apply pw_below_drewN | apply below_drew1) | exact HB.out)))); have n4_ := Aside0.mk (below_step (by repeat (first | (with_reducible first | exact HB.out | apply below_alloc | apply pw_below_drewN | apply below_drew1) | exact HB.out)) hb); clear HO177; clear HO180; clear HO183; clear HB; have HO177 := n0_; have HO180 := n1_; have HO183 := n2_; have HO186 := n3_; have HB := n4_; clear n0_ n1_ n2_ n3_ n4_; (try clear hb); (try clear hb2); (try clear hk); (try clear hi); (try clear ho0); obtain ⟨Ao31, co31, eo31⟩ := Kd.R_slice HO186.out; subst eo31) | (go_at_call 10; (with_reducible refine (pacelineref18_Outputs.calls kj2 _ _ t184 t187 _ ?side1 ?side2 A19.out).mono ?_); (case side1 => repeat (first | exact (Kd.R_reads' HO186.out).2.2 | (with_reducible refine Kd.C_alloc ?_ _) | (with_reducible refine Kd.C_drewN ?_ _) | (with_reducible refine Kd.C_drew ?_))); (case side2 => exact (Kd.R_reads' HO186.out).2.1); rintro e w32 ⟨v188, rfl, ho0, hb⟩; have n0_ := Aside0.mk (Kd.R_below (by (with_reducible repeat (first | apply Kd.R_alloc | apply Kd.R_drewN | apply Kd.R_drew)); exact HO177.out) hb); have n1_ := Aside0.mk (Kd.R_elder' (by (with_reducible repeat (first | apply Kd.R_alloc | apply Kd.R_drewN | apply Kd.R_drew)); exact HO180.out) (Kd.R_base ho0) hb); have n2_ := Aside0.mk (Kd.R_elder' (by (with_reducible repeat (first | apply Kd.R_alloc | apply Kd.R_drewN | apply Kd.R_drew)); exact HO183.out) (Kd.R_base ho0) hb); have n3_ := Aside0.mk (Kd.R_below (by (with_reducible repeat (first | apply Kd.R_alloc | apply Kd.R_drewN | apply Kd.R_drew)); exact HO186.out) hb); have n4_ := Aside0.mk (Kd.R_lower (Kd.R_new' (Kd.R_new' ho0 (Kd.R_lt (by (with_reducible repeat (first | apply Kd.R_alloc | apply Kd.R_drewN | apply Kd.R_drew)); exact HO180.out))) (Kd.R_lt (by (with_reducible repeat (first | apply Kd.R_alloc | apply Kd.R_drewN | apply Kd.R_drew)); exact HO183.out))) (below_size (by repeat (first | (with_reducible first | exact HB.out | apply below_alloc | apply pw_below_drewN | apply below_drew1) | exact HB.out)))); have n5_ := Aside0.mk (below_step (by repeat (first | (with_reducible first | exact HB.out | apply below_alloc | apply pw_below_drewN | apply below_drew1) | exact HB.out)) hb); clear HO177; clear HO180; clear HO183; clear HO186; clear HB; have HO177 := n0_; have HO180 := n1_; have HO183 := n2_; have HO186 := n3_; have HO189 := n4_; have HB := n5_; clear n0_ n1_ n2_ n3_ n4_ n5_; (try clear hb); (try clear hb2); (try clear hk); (try clear hi); (try clear ho0))))
                  (try simp only [Act.put, List.setIfInBounds_toArray, List.set_cons_zero, List.set_cons_succ])
                  go_cut [55] (fun v55 wc => ∃ (kq : Nat) (x55_19 : Bool), v55 = .bool x55_19 ∧ Aside0 (pacelinelaw18_LbtsTurned.j1 kq l0 ji9 t178 t181 t187 x55_19 = some r) ∧ Aside0 (kq ≤ kj2) ∧ Aside0 (Kd.R (Kd.int .i64) 3 wc w.heap.size (fun k_ => some k_ ≠ (v182 : Value).ownBlock ∧ some k_ ≠ (v188 : Value).ownBlock) v179 t178) ∧ Aside0 (Kd.R (Kd.int .i64) 3 wc w.heap.size (fun k_ => some k_ ≠ (v179 : Value).ownBlock ∧ some k_ ≠ (v188 : Value).ownBlock) v182 t181) ∧ Aside0 (Kd.R (Kd.int .i64) 3 wc w.heap.size (fun k_ => some k_ ≠ (v179 : Value).ownBlock ∧ some k_ ≠ (v182 : Value).ownBlock) v188 t187) ∧ Aside0 (Below w.heap.size w wc))
                  case first =>
                    have H := HC20.out
                    clear HC20
                    by_cases c33 : (t178.length : Int) = (l0.length : Int)
                    · rw [if_pos c33] at H
                      have c33b0 : ((t178.length : Int) == (l0.length : Int)) = true := beq_iff_eq.mpr c33
                      have c33b1 : ((t178.length : Int) != (l0.length : Int)) = false := bne_eq_false_iff_eq.mpr c33
                      have c33b2 : (t178.length == l0.length) = true := by first | simpa using c33 | (simp at c33 ⊢; omega)
                      clear c33
                      (first | rw [c33b0] | (simp only [i64_w, i32_w]; rw [c33b0]) | skip)
                      have H' := Aside0.mk H
                      clear H
                      obtain ⟨Ao34, co34, eo34⟩ := Kd.R_slice HO180.out
                      subst eo34
                      obtain ⟨Ao35, co35, eo35⟩ := Kd.R_slice HO183.out
                      subst eo35
                      go_wp2
                      repeat (go_quiet (fail); try go_wp2)
                      go_meet
                      case rel => exact ⟨_, (((t181.length : Int) != (l0.length : Int))), (by first | rfl | (simp; done) | (simp [*]; done)), H', ⟨by have := HJ2.out; first | omega | exact Nat.le_refl _⟩, ⟨by (with_reducible repeat (first | apply Kd.R_alloc | apply Kd.R_drewN | apply Kd.R_drew)); exact Kd.R_mono HO180.out (fun _ hk => ⟨hk.1.2, hk.2⟩)⟩, ⟨by (with_reducible repeat (first | apply Kd.R_alloc | apply Kd.R_drewN | apply Kd.R_drew)); exact Kd.R_mono HO183.out (fun _ hk => ⟨hk.1.2, hk.2⟩)⟩, ⟨by (with_reducible repeat (first | apply Kd.R_alloc | apply Kd.R_drewN | apply Kd.R_drew)); exact Kd.R_mono HO189.out (fun _ hk => ⟨hk.1.2, hk.2⟩)⟩, ⟨by repeat (first | (with_reducible first | exact HB.out | apply below_alloc | apply pw_below_drewN | apply below_drew1) | exact HB.out)⟩⟩
                    · rw [if_neg c33] at H
                      have c33b0 : ((t178.length : Int) == (l0.length : Int)) = false := beq_eq_false_iff_ne.mpr c33
                      have c33b1 : ((t178.length : Int) != (l0.length : Int)) = true := bne_iff_ne.mpr c33
                      have c33b2 : (t178.length == l0.length) = false := by first | simpa using c33 | (simp at c33 ⊢; omega)
                      (first | rw [c33b0] | (simp only [i64_w, i32_w]; rw [c33b0]) | skip)
                      have H' := Aside0.mk H
                      clear H
                      obtain ⟨Ao36, co36, eo36⟩ := Kd.R_slice HO180.out
                      subst eo36
                      go_wp2
                      repeat (go_quiet (fail); try go_wp2)
                      go_meet
                      case rel => exact ⟨_, (true), (by first | rfl | (simp; done) | (simp [*]; done)), H', ⟨by have := HJ2.out; first | omega | exact Nat.le_refl _⟩, ⟨by (with_reducible repeat (first | apply Kd.R_alloc | apply Kd.R_drewN | apply Kd.R_drew)); exact Kd.R_mono HO180.out (fun _ hk => ⟨hk.1.2, hk.2⟩)⟩, ⟨by (with_reducible repeat (first | apply Kd.R_alloc | apply Kd.R_drewN | apply Kd.R_drew)); exact Kd.R_mono HO183.out (fun _ hk => ⟨hk.1.2, hk.2⟩)⟩, ⟨by (with_reducible repeat (first | apply Kd.R_alloc | apply Kd.R_drewN | apply Kd.R_drew)); exact Kd.R_mono HO189.out (fun _ hk => ⟨hk.1.2, hk.2⟩)⟩, ⟨by repeat (first | (with_reducible first | exact HB.out | apply below_alloc | apply pw_below_drewN | apply below_drew1) | exact HB.out)⟩⟩
                  case rest =>
                    clear HC20
                    try clear c1
                    try clear c2
                    try clear p2
                    try clear q2
                    try clear c3
                    try clear c4
                    try clear c4b0
                    try clear c4b1
                    try clear c5
                    try clear p6
                    try clear c8
                    try clear c8b0
                    try clear c8b1
                    try clear c8b2
                    try clear c10
                    try clear c10b0
                    try clear c10b1
                    try clear c11
                    try clear c11b0
                    try clear c11b1
                    try clear c12
                    try clear c13
                    try clear c13b0
                    try clear c14
                    try clear c14b0
                    try clear c15
                    try clear c23
                    try clear q23
                    try clear q25
                    try clear c33
                    try clear c33b0
                    try clear c33b1
                    try clear c33b2
                    try clear p2
                    try clear q023
                    try clear q23
                    try clear q25
                    obtain ⟨kq, x55_19, rfl, HA, HJ19, HO_7, HO_8, HO_9, HB⟩ := hcut
                    cases kq with
                    | zero => exact absurd HA.out (by simp [pacelinelaw18_LbtsTurned.j1])
                    | succ kj19 =>
                      have H := HA.out
                      clear HA
                      simp only [pacelinelaw18_LbtsTurned.j1] at H
                      by_cases c37 : x55_19 = true
                      · subst c37
                        have H1 : (some false) = some r := by rw [if_pos rfl] at H; exact H
                        clear H
                        have H := H1
                        clear H1
                        obtain rfl := Option.some.inj H
                        go_wp2
                        repeat (go_quiet (fail); try go_wp2)
                        go_ret
                        exact ⟨by first | rfl | (simp [errW_none, errW_some] <;> rfl) | (simp only [← hji9]; first | rfl | (simp [errW_none, errW_some] <;> rfl)) | (simp [*, errW_none, errW_some] <;> rfl), by repeat (first | (with_reducible first | exact HB.out | apply below_alloc | apply pw_below_drewN | apply below_drew1) | exact HB.out)⟩
                      · replace c37 := Bool.eq_false_iff.mpr c37
                        subst c37
                        have H1 : (pacelinelaw18_LbtsTurned.l0 kj19 l0 ji9 t178 t181 t187 0) = some r := by rw [if_neg (show ¬ (false = true) by decide)] at H; exact H
                        clear H
                        have H := H1
                        clear H1
                        have H' := Aside0.mk H
                        clear H
                        go_wp2
                        repeat (go_quiet (fail); try go_wp2)
                        go_loopg [10] kj19 (fun kq v10 w' => ∃ (x10_3 : Int), v10 = .int .i64 x10_3 ∧ Aside0 (pacelinelaw18_LbtsTurned.l0 kq l0 ji9 t178 t181 t187 x10_3 = some r) ∧ Aside0 (kq ≤ kj19) ∧ Aside0 (Kd.R (Kd.int .i64) 3 w' w.heap.size (fun k_ => some k_ ≠ (v182 : Value).ownBlock ∧ some k_ ≠ (v188 : Value).ownBlock) v179 t178) ∧ Aside0 (Kd.R (Kd.int .i64) 3 w' w.heap.size (fun k_ => some k_ ≠ (v179 : Value).ownBlock ∧ some k_ ≠ (v188 : Value).ownBlock) v182 t181) ∧ Aside0 (Kd.R (Kd.int .i64) 3 w' w.heap.size (fun k_ => some k_ ≠ (v179 : Value).ownBlock ∧ some k_ ≠ (v182 : Value).ownBlock) v188 t187) ∧ Aside0 (Below w.heap.size w w'))
                        case atStart => exact ⟨(0), (by first | rfl | (simp; done) | (simp [*]; done)), H', ⟨Nat.le_refl _⟩, ⟨by (with_reducible repeat (first | apply Kd.R_alloc | apply Kd.R_drewN | apply Kd.R_drew)); exact HO_7.out⟩, ⟨by (with_reducible repeat (first | apply Kd.R_alloc | apply Kd.R_drewN | apply Kd.R_drew)); exact HO_8.out⟩, ⟨by (with_reducible repeat (first | apply Kd.R_alloc | apply Kd.R_drewN | apply Kd.R_drew)); exact HO_9.out⟩, ⟨by repeat (first | (with_reducible first | exact HB.out | apply below_alloc | apply pw_below_drewN | apply below_drew1) | exact HB.out)⟩⟩
                        case round =>
                          clear H'
                          try clear c1
                          try clear c2
                          try clear p2
                          try clear q2
                          try clear c3
                          try clear c4
                          try clear c4b0
                          try clear c4b1
                          try clear c5
                          try clear p6
                          try clear c8
                          try clear c8b0
                          try clear c8b1
                          try clear c8b2
                          try clear c10
                          try clear c10b0
                          try clear c10b1
                          try clear c11
                          try clear c11b0
                          try clear c11b1
                          try clear c12
                          try clear c13
                          try clear c13b0
                          try clear c14
                          try clear c14b0
                          try clear c15
                          try clear c23
                          try clear q23
                          try clear q25
                          try clear c33
                          try clear c33b0
                          try clear c33b1
                          try clear c33b2
                          try clear c37
                          try clear p2
                          try clear p6
                          try clear q023
                          try clear q2
                          try clear q23
                          try clear q25
                          obtain ⟨x10_3, rfl, HA, HK3, HO_7, HO_8, HO_9, HB⟩ := hrel
                          cases gk with
                          | zero => exact absurd HA.out (by simp [pacelinelaw18_LbtsTurned.l0])
                          | succ k3 =>
                            have H := HA.out
                            clear HA
                            simp only [pacelinelaw18_LbtsTurned.l0] at H
                            by_cases c38 : x10_3 < (l0.length : Int)
                            · rw [if_pos c38] at H
                              have c38b0 : decide (x10_3 < (l0.length : Int)) = true := decide_eq_true c38
                              clear c38
                              by_cases c39 : (l0.length : Int) = 0
                              · rw [if_pos c39] at H
                                exact absurd H (by simp)
                              · rw [if_neg c39] at H
                                have c39b0 : ((l0.length : Int) == 0) = false := beq_eq_false_iff_ne.mpr c39
                                have c39b1 : ((l0.length : Int) != 0) = true := bne_iff_ne.mpr c39
                                have c39b2 : ¬ (l0 = []) := fun h_ => c39 (by rw [h_]; rfl)
                                obtain ⟨ji40, hji40⟩ : ∃ j_ : Int, (Int.tmod (wrap64 (x10_3 + ji9)) (l0.length : Int)) = j_ := ⟨_, rfl⟩
                                replace H : (if 0 ≤ (ji40) then (if (ji40) < (t178.length : Int) then (if 0 ≤ x10_3 then (if x10_3 < (t181.length : Int) then (if (rd t178 (ji40)) = (rd t181 x10_3) then (if x10_3 < (t178.length : Int) then (if x10_3 < (t187.length : Int) then (if (rd t178 x10_3) = (rd t187 x10_3) then (pacelinelaw18_LbtsTurned.l0 k3 l0 ji9 t178 t181 t187 (wrap64 (x10_3 + 1))) else (some false)) else (none)) else (none)) else (some false)) else (none)) else (none)) else (none)) else (none)) = some r := by first | (rw [hji40] at H; exact H) | (simp only [hji40] at H ⊢; exact H)
                                by_cases c41 : 0 ≤ (ji40)
                                · rw [if_pos c41] at H
                                  have c41b0 : decide (0 ≤ (ji40)) = true := decide_eq_true c41
                                  clear c41
                                  by_cases c42 : (ji40) < (t178.length : Int)
                                  · rw [if_pos c42] at H
                                    have c42b0 : decide ((ji40) < (t178.length : Int)) = true := decide_eq_true c42
                                    clear c42
                                    by_cases c43 : 0 ≤ x10_3
                                    · rw [if_pos c43] at H
                                      have c43b0 : decide (0 ≤ x10_3) = true := decide_eq_true c43
                                      clear c43
                                      by_cases c44 : x10_3 < (t181.length : Int)
                                      · rw [if_pos c44] at H
                                        have c44b0 : decide (x10_3 < (t181.length : Int)) = true := decide_eq_true c44
                                        clear c44
                                        by_cases c45 : (rd t178 (ji40)) = (rd t181 x10_3)
                                        · rw [if_pos c45] at H
                                          have c45b0 : ((rd t178 (ji40)) == (rd t181 x10_3)) = true := beq_iff_eq.mpr c45
                                          have c45b1 : ((rd t178 (ji40)) != (rd t181 x10_3)) = false := bne_eq_false_iff_eq.mpr c45
                                          clear c45
                                          by_cases c46 : x10_3 < (t178.length : Int)
                                          · rw [if_pos c46] at H
                                            have c46b0 : decide (x10_3 < (t178.length : Int)) = true := decide_eq_true c46
                                            clear c46
                                            by_cases c47 : x10_3 < (t187.length : Int)
                                            · rw [if_pos c47] at H
                                              have c47b0 : decide (x10_3 < (t187.length : Int)) = true := decide_eq_true c47
                                              clear c47
                                              by_cases c48 : (rd t178 x10_3) = (rd t187 x10_3)
                                              · rw [if_pos c48] at H
                                                have c48b0 : ((rd t178 x10_3) == (rd t187 x10_3)) = true := beq_iff_eq.mpr c48
                                                have c48b1 : ((rd t178 x10_3) != (rd t187 x10_3)) = false := bne_eq_false_iff_eq.mpr c48
                                                clear c48
                                                have H' := Aside0.mk H
                                                clear H
                                                obtain ⟨Ao49, co49, eo49⟩ := Kd.R_slice HO_7.out
                                                subst eo49
                                                have p190 : 0 ≤ ((ji40) : Int) := of_decide_eq_true (by first | (with_reducible assumption) | assumption)
                                                have q190 : (ji40) < (t178.length : Int) := of_decide_eq_true (by first | (with_reducible assumption) | assumption)
                                                obtain ⟨ad190, e190, hx190_0⟩ := Kd.at_int (Kd.R_reads' HO_7.out).2.2 (ji40) p190 q190
                                                cases e190
                                                replace p190 := eq_true p190
                                                replace q190 := eq_true q190
                                                obtain ⟨Ao50, co50, eo50⟩ := Kd.R_slice HO_8.out
                                                subst eo50
                                                have p191 : 0 ≤ (x10_3 : Int) := of_decide_eq_true (by first | (with_reducible assumption) | assumption)
                                                have q191 : x10_3 < (t181.length : Int) := of_decide_eq_true (by first | (with_reducible assumption) | assumption)
                                                obtain ⟨ad191, e191, hx191_0⟩ := Kd.at_int (Kd.R_reads' HO_8.out).2.2 x10_3 p191 q191
                                                cases e191
                                                replace p191 := eq_true p191
                                                replace q191 := eq_true q191
                                                have p192 : 0 ≤ (x10_3 : Int) := of_decide_eq_true (by first | (with_reducible assumption) | assumption)
                                                have q192 : x10_3 < (t178.length : Int) := of_decide_eq_true (by first | (with_reducible assumption) | assumption)
                                                obtain ⟨ad192, e192, hx192_0⟩ := Kd.at_int (Kd.R_reads' HO_7.out).2.2 x10_3 p192 q192
                                                obtain rfl : ad190 = ad192 := (by injection e192)
                                                replace p192 := eq_true p192
                                                replace q192 := eq_true q192
                                                obtain ⟨Ao51, co51, eo51⟩ := Kd.R_slice HO_9.out
                                                subst eo51
                                                have p193 : 0 ≤ (x10_3 : Int) := of_decide_eq_true (by first | (with_reducible assumption) | assumption)
                                                have q193 : x10_3 < (t187.length : Int) := of_decide_eq_true (by first | (with_reducible assumption) | assumption)
                                                obtain ⟨ad193, e193, hx193_0⟩ := Kd.at_int (Kd.R_reads' HO_9.out).2.2 x10_3 p193 q193
                                                cases e193
                                                replace p193 := eq_true p193
                                                replace q193 := eq_true q193
                                                go_wp2
                                                repeat (go_quiet (fail); try go_wp2)
                                                go_roundg k3
                                                case measure => have := HJ2.out; have := HJ19.out; have := HK3.out; omega
                                                case rel => exact ⟨(wrap64 (x10_3 + 1)), (by first | rfl | (simp; done) | (simp [*]; done)), H', ⟨by have := HJ2.out; have := HJ19.out; have := HK3.out; omega⟩, ⟨by (with_reducible repeat (first | apply Kd.R_alloc | apply Kd.R_drewN | apply Kd.R_drew)); exact HO_7.out⟩, ⟨by (with_reducible repeat (first | apply Kd.R_alloc | apply Kd.R_drewN | apply Kd.R_drew)); exact HO_8.out⟩, ⟨by (with_reducible repeat (first | apply Kd.R_alloc | apply Kd.R_drewN | apply Kd.R_drew)); exact HO_9.out⟩, ⟨by repeat (first | (with_reducible first | exact HB.out | apply below_alloc | apply pw_below_drewN | apply below_drew1) | exact HB.out)⟩⟩
                                              · rw [if_neg c48] at H
                                                have c48b0 : ((rd t178 x10_3) == (rd t187 x10_3)) = false := beq_eq_false_iff_ne.mpr c48
                                                have c48b1 : ((rd t178 x10_3) != (rd t187 x10_3)) = true := bne_iff_ne.mpr c48
                                                obtain rfl := Option.some.inj H
                                                obtain ⟨Ao52, co52, eo52⟩ := Kd.R_slice HO_7.out
                                                subst eo52
                                                have p190 : 0 ≤ ((ji40) : Int) := of_decide_eq_true (by first | (with_reducible assumption) | assumption)
                                                have q190 : (ji40) < (t178.length : Int) := of_decide_eq_true (by first | (with_reducible assumption) | assumption)
                                                obtain ⟨ad190, e190, hx190_0⟩ := Kd.at_int (Kd.R_reads' HO_7.out).2.2 (ji40) p190 q190
                                                cases e190
                                                replace p190 := eq_true p190
                                                replace q190 := eq_true q190
                                                obtain ⟨Ao53, co53, eo53⟩ := Kd.R_slice HO_8.out
                                                subst eo53
                                                have p191 : 0 ≤ (x10_3 : Int) := of_decide_eq_true (by first | (with_reducible assumption) | assumption)
                                                have q191 : x10_3 < (t181.length : Int) := of_decide_eq_true (by first | (with_reducible assumption) | assumption)
                                                obtain ⟨ad191, e191, hx191_0⟩ := Kd.at_int (Kd.R_reads' HO_8.out).2.2 x10_3 p191 q191
                                                cases e191
                                                replace p191 := eq_true p191
                                                replace q191 := eq_true q191
                                                have p192 : 0 ≤ (x10_3 : Int) := of_decide_eq_true (by first | (with_reducible assumption) | assumption)
                                                have q192 : x10_3 < (t178.length : Int) := of_decide_eq_true (by first | (with_reducible assumption) | assumption)
                                                obtain ⟨ad192, e192, hx192_0⟩ := Kd.at_int (Kd.R_reads' HO_7.out).2.2 x10_3 p192 q192
                                                obtain rfl : ad190 = ad192 := (by injection e192)
                                                replace p192 := eq_true p192
                                                replace q192 := eq_true q192
                                                obtain ⟨Ao54, co54, eo54⟩ := Kd.R_slice HO_9.out
                                                subst eo54
                                                have p193 : 0 ≤ (x10_3 : Int) := of_decide_eq_true (by first | (with_reducible assumption) | assumption)
                                                have q193 : x10_3 < (t187.length : Int) := of_decide_eq_true (by first | (with_reducible assumption) | assumption)
                                                obtain ⟨ad193, e193, hx193_0⟩ := Kd.at_int (Kd.R_reads' HO_9.out).2.2 x10_3 p193 q193
                                                cases e193
                                                replace p193 := eq_true p193
                                                replace q193 := eq_true q193
                                                go_wp2
                                                repeat (go_quiet (fail); try go_wp2)
                                                go_ret
                                                exact ⟨by first | rfl | (simp [errW_none, errW_some] <;> rfl) | (simp only [← hji9, ← hji40]; first | rfl | (simp [errW_none, errW_some] <;> rfl)) | (simp [*, errW_none, errW_some] <;> rfl), by repeat (first | (with_reducible first | exact HB.out | apply below_alloc | apply pw_below_drewN | apply below_drew1) | exact HB.out)⟩
                                            · rw [if_neg c47] at H
                                              exact absurd H (by simp)
                                          · rw [if_neg c46] at H
                                            exact absurd H (by simp)
                                        · rw [if_neg c45] at H
                                          have c45b0 : ((rd t178 (ji40)) == (rd t181 x10_3)) = false := beq_eq_false_iff_ne.mpr c45
                                          have c45b1 : ((rd t178 (ji40)) != (rd t181 x10_3)) = true := bne_iff_ne.mpr c45
                                          obtain rfl := Option.some.inj H
                                          obtain ⟨Ao55, co55, eo55⟩ := Kd.R_slice HO_7.out
                                          subst eo55
                                          have p190 : 0 ≤ ((ji40) : Int) := of_decide_eq_true (by first | (with_reducible assumption) | assumption)
                                          have q190 : (ji40) < (t178.length : Int) := of_decide_eq_true (by first | (with_reducible assumption) | assumption)
                                          obtain ⟨ad190, e190, hx190_0⟩ := Kd.at_int (Kd.R_reads' HO_7.out).2.2 (ji40) p190 q190
                                          cases e190
                                          replace p190 := eq_true p190
                                          replace q190 := eq_true q190
                                          obtain ⟨Ao56, co56, eo56⟩ := Kd.R_slice HO_8.out
                                          subst eo56
                                          have p191 : 0 ≤ (x10_3 : Int) := of_decide_eq_true (by first | (with_reducible assumption) | assumption)
                                          have q191 : x10_3 < (t181.length : Int) := of_decide_eq_true (by first | (with_reducible assumption) | assumption)
                                          obtain ⟨ad191, e191, hx191_0⟩ := Kd.at_int (Kd.R_reads' HO_8.out).2.2 x10_3 p191 q191
                                          cases e191
                                          replace p191 := eq_true p191
                                          replace q191 := eq_true q191
                                          go_wp2
                                          repeat (go_quiet (fail); try go_wp2)
                                          go_ret
                                          exact ⟨by first | rfl | (simp [errW_none, errW_some] <;> rfl) | (simp only [← hji9, ← hji40]; first | rfl | (simp [errW_none, errW_some] <;> rfl)) | (simp [*, errW_none, errW_some] <;> rfl), by repeat (first | (with_reducible first | exact HB.out | apply below_alloc | apply pw_below_drewN | apply below_drew1) | exact HB.out)⟩
                                      · rw [if_neg c44] at H
                                        exact absurd H (by simp)
                                    · rw [if_neg c43] at H
                                      exact absurd H (by simp)
                                  · rw [if_neg c42] at H
                                    exact absurd H (by simp)
                                · rw [if_neg c41] at H
                                  exact absurd H (by simp)
                            · rw [if_neg c38] at H
                              have c38b0 : decide (x10_3 < (l0.length : Int)) = false := decide_eq_false c38
                              clear c38
                              obtain rfl := Option.some.inj H
                              go_wp2
                              repeat (go_quiet (fail); try go_wp2)
                              go_ret
                              exact ⟨by first | rfl | (simp [errW_none, errW_some] <;> rfl) | (simp only [← hji9]; first | rfl | (simp [errW_none, errW_some] <;> rfl)) | (simp [*, errW_none, errW_some] <;> rfl), by repeat (first | (with_reducible first | exact HB.out | apply below_alloc | apply pw_below_drewN | apply below_drew1) | exact HB.out)⟩
                · rw [if_neg c15] at H
                  exact absurd H (by simp)
              · rw [if_neg c12] at H
                exact absurd H (by simp)
            · rw [if_neg c11] at H
              exact absurd H (by simp)
          · rw [if_neg c10] at H
            exact absurd H (by simp)

/-- THE ONE PURE STATEMENT of pacelinelaw18_LbtsTurned. -/
def pacelinelaw18_LbtsTurned.Pure : Prop := ∀ (l0 : List (S30)) (a1 : Int), OkAll (ok30) l0 → (Lit.int .u8 a1).wf = true → ∃ k, pacelinelaw18_LbtsTurned.f k l0 a1 = some true

end Go.Proofs.Yteomcpdfbaglaaa.PLbtsTurned
