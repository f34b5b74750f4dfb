-- Written by gp.py (this project's driver over the kit's print) out of the translation and wip/given; Lean checks it.
import Derived.Test.YtecjpnfhanimiaaPTreeMeetsx0
import Derived.Test.YtecjpnfhanimiaaPTreeMeetsx1
import Derived.Test.YtecjpnfhanimiaaPTreeMeetsx2
namespace Go.Proofs.Ytecjpnfhanimiaa.PTreeMeets
open Go.RowKit Go.Proofs.YtecjpnfhanimiaaR Go.Proofs.YtecjpnfhanimiaaW.PrintWords Go.Proofs.YtecjpnfhanimiaaW.PrintLast Go.Proofs.YtecjpnfhanimiaaW.PrintMore
attribute [local go_sem] max2_int min2_int max_two min_two max_three min_three max_four min_four   -- for this text's walks alone
set_option linter.unusedVariables false
set_option linter.unusedSimpArgs false

/-! ### pacelinelaw05_TreeMeets: function 4 -/
mutual
def pacelinelaw05_TreeMeets.j0 : Nat → List Int → Int → Int → Int → Bool → Option (Bool)
  | 0, _, _, _, _, _ => none
  | k + 1, x7, x8, x9, x10, x52 => if x52 = true then (some false) else (pacelinelaw05_TreeMeets.l0 k x7 x8 x9 x10 0)
def pacelinelaw05_TreeMeets.l0 : Nat → List Int → Int → Int → Int → Int → Option (Bool)
  | 0, _, _, _, _, _ => none
  | k + 1, x7, x8, x9, x10, x11 => if x11 < (x7.length : Int) then ((tree_IsA.f x7 x8 x11).bind fun t147 => (if t147 = true then ((tree_IsA.f x7 x9 x11).bind fun t148 => (if t148 = true then (if x10 < 0 then (some false) else ((tree_IsA.f x7 x10 x11).bind fun t149 => (if t149 = true then (pacelinelaw05_TreeMeets.l0 k x7 x8 x9 x10 (wrap64 (x11 + 1))) else (some false)))) else (pacelinelaw05_TreeMeets.l0 k x7 x8 x9 x10 (wrap64 (x11 + 1))))) else (pacelinelaw05_TreeMeets.l0 k x7 x8 x9 x10 (wrap64 (x11 + 1))))) else (if x10 < 0 then (some true) else ((tree_IsA.f x7 x8 x10).bind fun t145 => (if t145 = true then ((tree_IsA.f x7 x9 x10).bind fun t146 => (some t146)) else (some false))))
end
def pacelinelaw05_TreeMeets.f (k : Nat) (l0 : List Int) (a1 : Int) (a2 : Int) : Option (Bool) := (pacelinelaw05_made.f k l0).bind fun t139 => (if (t139.length : Int) = 0 then (none) else ((tree_Meet.f k t139 (Int.tmod (wrap64 (a1)) (t139.length : Int)) (Int.tmod (wrap64 (a2)) (t139.length : Int))).bind fun t142 => ((tree_Meet.f k t139 (Int.tmod (wrap64 (a2)) (t139.length : Int)) (Int.tmod (wrap64 (a1)) (t139.length : Int))).bind fun t143 => (if t142 = t143 then ((pacelineref05_Meet.f k t139 (Int.tmod (wrap64 (a1)) (t139.length : Int)) (Int.tmod (wrap64 (a2)) (t139.length : Int))).bind fun t144 => (if t142 = t144 then (if t142 < (-1) then (pacelinelaw05_TreeMeets.j0 k t139 (Int.tmod (wrap64 (a1)) (t139.length : Int)) (Int.tmod (wrap64 (a2)) (t139.length : Int)) t142 true) else (pacelinelaw05_TreeMeets.j0 k t139 (Int.tmod (wrap64 (a1)) (t139.length : Int)) (Int.tmod (wrap64 (a2)) (t139.length : Int)) t142 (decide (t142 ≥ (t139.length : Int))))) else (pacelinelaw05_TreeMeets.j0 k t139 (Int.tmod (wrap64 (a1)) (t139.length : Int)) (Int.tmod (wrap64 (a2)) (t139.length : Int)) t142 true))) else (pacelinelaw05_TreeMeets.j0 k t139 (Int.tmod (wrap64 (a1)) (t139.length : Int)) (Int.tmod (wrap64 (a2)) (t139.length : Int)) t142 true)))))
theorem pacelinelaw05_TreeMeets.mono_l : ∀ k, (∀ y0 y1 y2 y3 y4, LeO (pacelinelaw05_TreeMeets.j0 k y0 y1 y2 y3 y4) (pacelinelaw05_TreeMeets.j0 (k + 1) y0 y1 y2 y3 y4)) ∧ (∀ y0 y1 y2 y3 y4, LeO (pacelinelaw05_TreeMeets.l0 k y0 y1 y2 y3 y4) (pacelinelaw05_TreeMeets.l0 (k + 1) y0 y1 y2 y3 y4))
  | 0 => ⟨fun _ _ _ _ _ r h => by simp [pacelinelaw05_TreeMeets.j0] at h, fun _ _ _ _ _ r h => by simp [pacelinelaw05_TreeMeets.l0] at h⟩
  | k + 1 => by
    obtain ⟨ih0, ih1⟩ := pacelinelaw05_TreeMeets.mono_l k
    refine ⟨?_, ?_⟩
    · intro y0 y1 y2 y3 y4
      unfold pacelinelaw05_TreeMeets.j0
      repeat' first
      | (with_reducible exact ih0 _ _ _ _ _)
      | (with_reducible exact ih1 _ _ _ _ _)
      | (with_reducible exact pacelinelaw05_made.mono _ _)
      | (with_reducible exact pacelineref05_Meet.mono _ _ _ _)
      | (with_reducible exact tree_Meet.mono _ _ _ _)
      | (with_reducible exact LeO.refl _)
      | (with_reducible exact LeO.none _)
      | (with_reducible refine LeO.ite ?_ ?_)
      | (with_reducible refine LeO.bind ?_ (fun _ => ?_))
      | exact ih0 _ _ _ _ _
      | exact ih1 _ _ _ _ _
      | exact pacelinelaw05_made.mono _ _
      | exact pacelineref05_Meet.mono _ _ _ _
      | exact tree_Meet.mono _ _ _ _
      | exact LeO.none _
      | refine LeO.ite ?_ ?_
      | refine LeO.bind ?_ (fun _ => ?_)
    · intro y0 y1 y2 y3 y4
      unfold pacelinelaw05_TreeMeets.l0
      repeat' first
      | (with_reducible exact ih0 _ _ _ _ _)
      | (with_reducible exact ih1 _ _ _ _ _)
      | (with_reducible exact pacelinelaw05_made.mono _ _)
      | (with_reducible exact pacelineref05_Meet.mono _ _ _ _)
      | (with_reducible exact tree_Meet.mono _ _ _ _)
      | (with_reducible exact LeO.refl _)
      | (with_reducible exact LeO.none _)
      | (with_reducible refine LeO.ite ?_ ?_)
      | (with_reducible refine LeO.bind ?_ (fun _ => ?_))
      | exact ih0 _ _ _ _ _
      | exact ih1 _ _ _ _ _
      | exact pacelinelaw05_made.mono _ _
      | exact pacelineref05_Meet.mono _ _ _ _
      | exact tree_Meet.mono _ _ _ _
      | exact LeO.none _
      | refine LeO.ite ?_ ?_
      | refine LeO.bind ?_ (fun _ => ?_)
theorem pacelinelaw05_TreeMeets.mono : ∀ a0 a1 a2 k, LeO (pacelinelaw05_TreeMeets.f k a0 a1 a2) (pacelinelaw05_TreeMeets.f (k + 1) a0 a1 a2) := by
  intro a0 a1 a2 k
  obtain ⟨ih0, ih1⟩ := pacelinelaw05_TreeMeets.mono_l k
  unfold pacelinelaw05_TreeMeets.f
  repeat' first
      | (with_reducible exact ih0 _ _ _ _ _)
      | (with_reducible exact ih1 _ _ _ _ _)
      | (with_reducible exact pacelinelaw05_made.mono _ _)
      | (with_reducible exact pacelineref05_Meet.mono _ _ _ _)
      | (with_reducible exact tree_Meet.mono _ _ _ _)
      | (with_reducible exact LeO.refl _)
      | (with_reducible exact LeO.none _)
      | (with_reducible refine LeO.ite ?_ ?_)
      | (with_reducible refine LeO.bind ?_ (fun _ => ?_))
      | exact ih0 _ _ _ _ _
      | exact ih1 _ _ _ _ _
      | exact pacelinelaw05_made.mono _ _
      | exact pacelineref05_Meet.mono _ _ _ _
      | exact tree_Meet.mono _ _ _ _
      | exact LeO.none _
      | refine LeO.ite ?_ ?_
      | refine LeO.bind ?_ (fun _ => ?_)
set_option maxHeartbeats 8000000 in
set_option maxRecDepth 100000 in
theorem pacelinelaw05_TreeMeets.calls (k : Nat) (A0 : Option Addr) (c0 : Nat) (l0 : List Int) (a1 : Int) (a2 : Int) (r : Bool) (w : World) (hr0 : Kd.C (Kd.int .u8) w A0 l0.length l0) (hc0 : l0.length ≤ c0) (h : pacelinelaw05_TreeMeets.f k l0 a1 a2 = some r) :
    Calls Try.prog 4 #[.slice A0 l0.length c0, .int .u8 a1, .int .u8 a2] w fun e w' => e = .returned (.bool r) ∧ Below w.heap.size w w' := by
  have HR0 := Aside0.mk hr0
  have HC0 := Aside0.mk hc0
  clear hr0 hc0
  have HB := Aside0.mk (Below.refl w.heap.size w)
  have H : ((pacelinelaw05_made.f k l0).bind fun t139 => (if (t139.length : Int) = 0 then (none) else ((tree_Meet.f k t139 (Int.tmod (wrap64 (a1)) (t139.length : Int)) (Int.tmod (wrap64 (a2)) (t139.length : Int))).bind fun t142 => ((tree_Meet.f k t139 (Int.tmod (wrap64 (a2)) (t139.length : Int)) (Int.tmod (wrap64 (a1)) (t139.length : Int))).bind fun t143 => (if t142 = t143 then ((pacelineref05_Meet.f k t139 (Int.tmod (wrap64 (a1)) (t139.length : Int)) (Int.tmod (wrap64 (a2)) (t139.length : Int))).bind fun t144 => (if t142 = t144 then (if t142 < (-1) then (pacelinelaw05_TreeMeets.j0 k t139 (Int.tmod (wrap64 (a1)) (t139.length : Int)) (Int.tmod (wrap64 (a2)) (t139.length : Int)) t142 true) else (pacelinelaw05_TreeMeets.j0 k t139 (Int.tmod (wrap64 (a1)) (t139.length : Int)) (Int.tmod (wrap64 (a2)) (t139.length : Int)) t142 (decide (t142 ≥ (t139.length : Int))))) else (pacelinelaw05_TreeMeets.j0 k t139 (Int.tmod (wrap64 (a1)) (t139.length : Int)) (Int.tmod (wrap64 (a2)) (t139.length : Int)) t142 true))) else (pacelinelaw05_TreeMeets.j0 k t139 (Int.tmod (wrap64 (a1)) (t139.length : Int)) (Int.tmod (wrap64 (a2)) (t139.length : Int)) t142 true)))))) = some r := h
  clear h
  replace H := Option.bind_eq_some_iff.mp H
  obtain ⟨t139, A40, H⟩ := H
  replace H : (if (t139.length : Int) = 0 then (none) else ((tree_Meet.f k t139 (Int.tmod (wrap64 (a1)) (t139.length : Int)) (Int.tmod (wrap64 (a2)) (t139.length : Int))).bind fun t142 => ((tree_Meet.f k t139 (Int.tmod (wrap64 (a2)) (t139.length : Int)) (Int.tmod (wrap64 (a1)) (t139.length : Int))).bind fun t143 => (if t142 = t143 then ((pacelineref05_Meet.f k t139 (Int.tmod (wrap64 (a1)) (t139.length : Int)) (Int.tmod (wrap64 (a2)) (t139.length : Int))).bind fun t144 => (if t142 = t144 then (if t142 < (-1) then (pacelinelaw05_TreeMeets.j0 k t139 (Int.tmod (wrap64 (a1)) (t139.length : Int)) (Int.tmod (wrap64 (a2)) (t139.length : Int)) t142 true) else (pacelinelaw05_TreeMeets.j0 k t139 (Int.tmod (wrap64 (a1)) (t139.length : Int)) (Int.tmod (wrap64 (a2)) (t139.length : Int)) t142 (decide (t142 ≥ (t139.length : Int))))) else (pacelinelaw05_TreeMeets.j0 k t139 (Int.tmod (wrap64 (a1)) (t139.length : Int)) (Int.tmod (wrap64 (a2)) (t139.length : Int)) t142 true))) else (pacelinelaw05_TreeMeets.j0 k t139 (Int.tmod (wrap64 (a1)) (t139.length : Int)) (Int.tmod (wrap64 (a2)) (t139.length : Int)) t142 true))))) = some r := H
  have A4 := Aside0.mk A40
  clear A40
  by_cases c5 : (t139.length : Int) = 0
  · rw [if_pos c5] at H
    exact absurd H (by simp)
  · rw [if_neg c5] at H
    have c5b0 : ((t139.length : Int) == 0) = false := beq_eq_false_iff_ne.mpr c5
    have c5b1 : ((t139.length : Int) != 0) = true := bne_iff_ne.mpr c5
    have c5b2 : ¬ (t139 = []) := fun h_ => c5 (by rw [h_]; rfl)
    replace H := Option.bind_eq_some_iff.mp H
    obtain ⟨t142, A60, H⟩ := H
    replace H : ((tree_Meet.f k t139 (Int.tmod (wrap64 (a2)) (t139.length : Int)) (Int.tmod (wrap64 (a1)) (t139.length : Int))).bind fun t143 => (if t142 = t143 then ((pacelineref05_Meet.f k t139 (Int.tmod (wrap64 (a1)) (t139.length : Int)) (Int.tmod (wrap64 (a2)) (t139.length : Int))).bind fun t144 => (if t142 = t144 then (if t142 < (-1) then (pacelinelaw05_TreeMeets.j0 k t139 (Int.tmod (wrap64 (a1)) (t139.length : Int)) (Int.tmod (wrap64 (a2)) (t139.length : Int)) t142 true) else (pacelinelaw05_TreeMeets.j0 k t139 (Int.tmod (wrap64 (a1)) (t139.length : Int)) (Int.tmod (wrap64 (a2)) (t139.length : Int)) t142 (decide (t142 ≥ (t139.length : Int))))) else (pacelinelaw05_TreeMeets.j0 k t139 (Int.tmod (wrap64 (a1)) (t139.length : Int)) (Int.tmod (wrap64 (a2)) (t139.length : Int)) t142 true))) else (pacelinelaw05_TreeMeets.j0 k t139 (Int.tmod (wrap64 (a1)) (t139.length : Int)) (Int.tmod (wrap64 (a2)) (t139.length : Int)) t142 true))) = some r := H
    have A6 := Aside0.mk A60
    clear A60
    have HC7 := Aside0.mk H
    clear H
    go_enter Try.func4, Try.ntmps4
    go_upto_region 5 with (first | ((with_reducible refine gate_callee (f := 10) rfl ?_); refine goesL_ (some 14) rfl rfl Try.func10 (by kernel_rfl) rfl #[.slice A0 l0.length c0] rfl (by (try simp only [List.map_toArray, List.map_cons, List.map_nil]); first | done | rfl | (simp only [List.length_drop, List.length_take]; rfl)) ?_; (with_reducible refine (pacelinelaw05_made.calls k _ _ l0 t139 _ ?side1 ?side2 A4.out).mono ?_); (case side1 => repeat (first | exact HR0.out | (with_reducible refine Kd.C_alloc ?_ _) | (with_reducible refine Kd.C_drewN ?_ _) | (with_reducible refine Kd.C_drew ?_))); (case side2 => exact HC0.out); rintro e w8 ⟨v140, rfl, ho0, hb⟩; refine ⟨_, rfl, ?_⟩; have n0_ := Aside0.mk (Kd.R_lower ho0 (below_size (by repeat (first | (with_reducible first | exact HB.out | apply below_alloc | apply pw_below_drewN | apply below_drew1) | exact HB.out)))); have n1_ := Aside0.mk (below_step (by repeat (first | (with_reducible first | exact HB.out | apply below_alloc | apply pw_below_drewN | apply below_drew1) | exact HB.out)) hb); clear HB; have HO141 := n0_; have HB := n1_; clear n0_ n1_; (try clear hb); (try clear hb2); (try clear hk); (try clear hi); (try clear ho0); obtain ⟨Ao9, co9, eo9⟩ := Kd.R_slice HO141.out; subst eo9) | ((with_reducible refine gate_callee (f := 14) rfl ?_); refine goesL_ (some 28) rfl rfl Try.func14 (by kernel_rfl) rfl #[.slice Ao9 t139.length co9, .int .i64 (Int.tmod (wrap64 (a1)) (t139.length : Int)), .int .i64 (Int.tmod (wrap64 (a2)) (t139.length : Int))] rfl (by (try simp only [List.map_toArray, List.map_cons, List.map_nil]); first | done | rfl | (simp only [List.length_drop, List.length_take]; rfl)) ?_; (with_reducible refine (tree_Meet.calls k _ _ t139 (Int.tmod (wrap64 (a1)) (t139.length : Int)) (Int.tmod (wrap64 (a2)) (t139.length : Int)) t142 _ ?side1 ?side2 A6.out).mono ?_); (case side1 => repeat (first | exact (Kd.R_reads' HO141.out).2.2 | (with_reducible refine Kd.C_alloc ?_ _) | (with_reducible refine Kd.C_drewN ?_ _) | (with_reducible refine Kd.C_drew ?_))); (case side2 => exact (Kd.R_reads' HO141.out).2.1); rintro e w' ⟨rfl, ⟨nd, rfl⟩⟩; refine ⟨_, rfl, ?_⟩))
    (try simp only [Act.put, List.setIfInBounds_toArray, List.set_cons_zero, List.set_cons_succ])
    go_cut [52] (fun v52 wc => ∃ (kq : Nat) (x52_6 : Bool), v52 = .bool x52_6 ∧ Aside0 (pacelinelaw05_TreeMeets.j0 kq t139 (Int.tmod (wrap64 (a1)) (t139.length : Int)) (Int.tmod (wrap64 (a2)) (t139.length : Int)) t142 x52_6 = some r) ∧ Aside0 (kq ≤ k) ∧ Aside0 (Kd.R (Kd.int .i64) 3 wc w.heap.size (fun _ => True) (.slice Ao9 t139.length co9) t139) ∧ Aside0 (Below w.heap.size w wc))
    case first =>
      have H := HC7.out
      clear HC7
      replace H := Option.bind_eq_some_iff.mp H
      obtain ⟨t143, A100, H⟩ := H
      replace H : (if t142 = t143 then ((pacelineref05_Meet.f k t139 (Int.tmod (wrap64 (a1)) (t139.length : Int)) (Int.tmod (wrap64 (a2)) (t139.length : Int))).bind fun t144 => (if t142 = t144 then (if t142 < (-1) then (pacelinelaw05_TreeMeets.j0 k t139 (Int.tmod (wrap64 (a1)) (t139.length : Int)) (Int.tmod (wrap64 (a2)) (t139.length : Int)) t142 true) else (pacelinelaw05_TreeMeets.j0 k t139 (Int.tmod (wrap64 (a1)) (t139.length : Int)) (Int.tmod (wrap64 (a2)) (t139.length : Int)) t142 (decide (t142 ≥ (t139.length : Int))))) else (pacelinelaw05_TreeMeets.j0 k t139 (Int.tmod (wrap64 (a1)) (t139.length : Int)) (Int.tmod (wrap64 (a2)) (t139.length : Int)) t142 true))) else (pacelinelaw05_TreeMeets.j0 k t139 (Int.tmod (wrap64 (a1)) (t139.length : Int)) (Int.tmod (wrap64 (a2)) (t139.length : Int)) t142 true)) = some r := H
      have A10 := Aside0.mk A100
      clear A100
      by_cases c11 : t142 = t143
      · rw [if_pos c11] at H
        have c11b0 : (t142 == t143) = true := beq_iff_eq.mpr c11
        have c11b1 : (t142 != t143) = false := bne_eq_false_iff_eq.mpr c11
        clear c11
        (first | rw [c11b0] | (simp only [i64_w, i32_w]; rw [c11b0]) | skip)
        replace H := Option.bind_eq_some_iff.mp H
        obtain ⟨t144, A120, H⟩ := H
        replace H : (if t142 = t144 then (if t142 < (-1) then (pacelinelaw05_TreeMeets.j0 k t139 (Int.tmod (wrap64 (a1)) (t139.length : Int)) (Int.tmod (wrap64 (a2)) (t139.length : Int)) t142 true) else (pacelinelaw05_TreeMeets.j0 k t139 (Int.tmod (wrap64 (a1)) (t139.length : Int)) (Int.tmod (wrap64 (a2)) (t139.length : Int)) t142 (decide (t142 ≥ (t139.length : Int))))) else (pacelinelaw05_TreeMeets.j0 k t139 (Int.tmod (wrap64 (a1)) (t139.length : Int)) (Int.tmod (wrap64 (a2)) (t139.length : Int)) t142 true)) = some r := H
        have A12 := Aside0.mk A120
        clear A120
        by_cases c13 : t142 = t144
        · rw [if_pos c13] at H
          have c13b0 : (t142 == t144) = true := beq_iff_eq.mpr c13
          have c13b1 : (t142 != t144) = false := bne_eq_false_iff_eq.mpr c13
          clear c13
          by_cases c14 : t142 < (-1)
          · rw [if_pos c14] at H
            have c14b0 : decide (t142 < (-1)) = true := decide_eq_true c14
            clear c14
            have H' := Aside0.mk H
            clear H
            go_wp2_with (first | ((with_reducible refine gate_callee (f := 14) rfl ?_); refine goesL_ (some 33) rfl rfl Try.func14 (by kernel_rfl) rfl #[.slice Ao9 t139.length co9, .int .i64 (Int.tmod (wrap64 (a2)) (t139.length : Int)), .int .i64 (Int.tmod (wrap64 (a1)) (t139.length : Int))] rfl (by (try simp only [List.map_toArray, List.map_cons, List.map_nil]); first | done | rfl | (simp only [List.length_drop, List.length_take]; rfl)) ?_; (with_reducible refine (tree_Meet.calls k _ _ t139 (Int.tmod (wrap64 (a2)) (t139.length : Int)) (Int.tmod (wrap64 (a1)) (t139.length : Int)) t143 _ ?side1 ?side2 A10.out).mono ?_); (case side1 => repeat (first | exact (Kd.R_reads' HO141.out).2.2 | (with_reducible refine Kd.C_alloc ?_ _) | (with_reducible refine Kd.C_drewN ?_ _) | (with_reducible refine Kd.C_drew ?_))); (case side2 => exact (Kd.R_reads' HO141.out).2.1); rintro e w' ⟨rfl, ⟨nd, rfl⟩⟩; refine ⟨_, rfl, ?_⟩) | (go_at_call 15; (with_reducible refine (pacelineref05_Meet.calls k _ _ t139 (Int.tmod (wrap64 (a1)) (t139.length : Int)) (Int.tmod (wrap64 (a2)) (t139.length : Int)) t144 _ ?side1 ?side2 A12.out).mono ?_); (case side1 => repeat (first | exact (Kd.R_reads' HO141.out).2.2 | (with_reducible refine Kd.C_alloc ?_ _) | (with_reducible refine Kd.C_drewN ?_ _) | (with_reducible refine Kd.C_drew ?_))); (case side2 => exact (Kd.R_reads' HO141.out).2.1); rintro e w15 ⟨rfl, hb⟩; have n0_ := Aside0.mk (Kd.R_below (by (with_reducible repeat (first | apply Kd.R_alloc | apply Kd.R_drewN | apply Kd.R_drew)); exact HO141.out) hb); have n1_ := Aside0.mk (below_step (by repeat (first | (with_reducible first | exact HB.out | apply below_alloc | apply pw_below_drewN | apply below_drew1) | exact HB.out)) hb); clear HO141; clear HB; have HO141 := n0_; have HB := n1_; clear n0_ n1_; (try clear hb); (try clear hb2); (try clear hk); (try clear hi)))
            go_meet
            case rel => exact ⟨_, (true), (by first | rfl | (simp; done) | (simp [*]; done)), H', ⟨by first | omega | exact Nat.le_refl _⟩, ⟨by (with_reducible repeat (first | apply Kd.R_alloc | apply Kd.R_drewN | apply Kd.R_drew)); exact HO141.out⟩, ⟨by repeat (first | (with_reducible first | exact HB.out | apply below_alloc | apply pw_below_drewN | apply below_drew1) | exact HB.out)⟩⟩
          · rw [if_neg c14] at H
            have c14b0 : decide (t142 < (-1)) = false := decide_eq_false c14
            clear c14
            have H' := Aside0.mk H
            clear H
            go_wp2_with (first | ((with_reducible refine gate_callee (f := 14) rfl ?_); refine goesL_ (some 33) rfl rfl Try.func14 (by kernel_rfl) rfl #[.slice Ao9 t139.length co9, .int .i64 (Int.tmod (wrap64 (a2)) (t139.length : Int)), .int .i64 (Int.tmod (wrap64 (a1)) (t139.length : Int))] rfl (by (try simp only [List.map_toArray, List.map_cons, List.map_nil]); first | done | rfl | (simp only [List.length_drop, List.length_take]; rfl)) ?_; (with_reducible refine (tree_Meet.calls k _ _ t139 (Int.tmod (wrap64 (a2)) (t139.length : Int)) (Int.tmod (wrap64 (a1)) (t139.length : Int)) t143 _ ?side1 ?side2 A10.out).mono ?_); (case side1 => repeat (first | exact (Kd.R_reads' HO141.out).2.2 | (with_reducible refine Kd.C_alloc ?_ _) | (with_reducible refine Kd.C_drewN ?_ _) | (with_reducible refine Kd.C_drew ?_))); (case side2 => exact (Kd.R_reads' HO141.out).2.1); rintro e w' ⟨rfl, ⟨nd, rfl⟩⟩; refine ⟨_, rfl, ?_⟩) | (go_at_call 15; (with_reducible refine (pacelineref05_Meet.calls k _ _ t139 (Int.tmod (wrap64 (a1)) (t139.length : Int)) (Int.tmod (wrap64 (a2)) (t139.length : Int)) t144 _ ?side1 ?side2 A12.out).mono ?_); (case side1 => repeat (first | exact (Kd.R_reads' HO141.out).2.2 | (with_reducible refine Kd.C_alloc ?_ _) | (with_reducible refine Kd.C_drewN ?_ _) | (with_reducible refine Kd.C_drew ?_))); (case side2 => exact (Kd.R_reads' HO141.out).2.1); rintro e w16 ⟨rfl, hb⟩; have n0_ := Aside0.mk (Kd.R_below (by (with_reducible repeat (first | apply Kd.R_alloc | apply Kd.R_drewN | apply Kd.R_drew)); exact HO141.out) hb); have n1_ := Aside0.mk (below_step (by repeat (first | (with_reducible first | exact HB.out | apply below_alloc | apply pw_below_drewN | apply below_drew1) | exact HB.out)) hb); clear HO141; clear HB; have HO141 := n0_; have HB := n1_; clear n0_ n1_; (try clear hb); (try clear hb2); (try clear hk); (try clear hi)))
            go_meet
            case rel => exact ⟨_, (decide (t142 ≥ (t139.length : Int))), (by first | rfl | (simp; done) | (simp [*]; done)), H', ⟨by first | omega | exact Nat.le_refl _⟩, ⟨by (with_reducible repeat (first | apply Kd.R_alloc | apply Kd.R_drewN | apply Kd.R_drew)); exact HO141.out⟩, ⟨by repeat (first | (with_reducible first | exact HB.out | apply below_alloc | apply pw_below_drewN | apply below_drew1) | exact HB.out)⟩⟩
        · rw [if_neg c13] at H
          have c13b0 : (t142 == t144) = false := beq_eq_false_iff_ne.mpr c13
          have c13b1 : (t142 != t144) = true := bne_iff_ne.mpr c13
          have H' := Aside0.mk H
          clear H
          go_wp2_with (first | ((with_reducible refine gate_callee (f := 14) rfl ?_); refine goesL_ (some 33) rfl rfl Try.func14 (by kernel_rfl) rfl #[.slice Ao9 t139.length co9, .int .i64 (Int.tmod (wrap64 (a2)) (t139.length : Int)), .int .i64 (Int.tmod (wrap64 (a1)) (t139.length : Int))] rfl (by (try simp only [List.map_toArray, List.map_cons, List.map_nil]); first | done | rfl | (simp only [List.length_drop, List.length_take]; rfl)) ?_; (with_reducible refine (tree_Meet.calls k _ _ t139 (Int.tmod (wrap64 (a2)) (t139.length : Int)) (Int.tmod (wrap64 (a1)) (t139.length : Int)) t143 _ ?side1 ?side2 A10.out).mono ?_); (case side1 => repeat (first | exact (Kd.R_reads' HO141.out).2.2 | (with_reducible refine Kd.C_alloc ?_ _) | (with_reducible refine Kd.C_drewN ?_ _) | (with_reducible refine Kd.C_drew ?_))); (case side2 => exact (Kd.R_reads' HO141.out).2.1); rintro e w' ⟨rfl, ⟨nd, rfl⟩⟩; refine ⟨_, rfl, ?_⟩) | (go_at_call 15; (with_reducible refine (pacelineref05_Meet.calls k _ _ t139 (Int.tmod (wrap64 (a1)) (t139.length : Int)) (Int.tmod (wrap64 (a2)) (t139.length : Int)) t144 _ ?side1 ?side2 A12.out).mono ?_); (case side1 => repeat (first | exact (Kd.R_reads' HO141.out).2.2 | (with_reducible refine Kd.C_alloc ?_ _) | (with_reducible refine Kd.C_drewN ?_ _) | (with_reducible refine Kd.C_drew ?_))); (case side2 => exact (Kd.R_reads' HO141.out).2.1); rintro e w17 ⟨rfl, hb⟩; have n0_ := Aside0.mk (Kd.R_below (by (with_reducible repeat (first | apply Kd.R_alloc | apply Kd.R_drewN | apply Kd.R_drew)); exact HO141.out) hb); have n1_ := Aside0.mk (below_step (by repeat (first | (with_reducible first | exact HB.out | apply below_alloc | apply pw_below_drewN | apply below_drew1) | exact HB.out)) hb); clear HO141; clear HB; have HO141 := n0_; have HB := n1_; clear n0_ n1_; (try clear hb); (try clear hb2); (try clear hk); (try clear hi)))
          go_meet
          case rel => exact ⟨_, (true), (by first | rfl | (simp; done) | (simp [*]; done)), H', ⟨by first | omega | exact Nat.le_refl _⟩, ⟨by (with_reducible repeat (first | apply Kd.R_alloc | apply Kd.R_drewN | apply Kd.R_drew)); exact HO141.out⟩, ⟨by repeat (first | (with_reducible first | exact HB.out | apply below_alloc | apply pw_below_drewN | apply below_drew1) | exact HB.out)⟩⟩
      · rw [if_neg c11] at H
        have c11b0 : (t142 == t143) = false := beq_eq_false_iff_ne.mpr c11
        have c11b1 : (t142 != t143) = true := bne_iff_ne.mpr c11
        (first | rw [c11b0] | (simp only [i64_w, i32_w]; rw [c11b0]) | skip)
        have H' := Aside0.mk H
        clear H
        go_wp2_with (first | ((with_reducible refine gate_callee (f := 14) rfl ?_); refine goesL_ (some 33) rfl rfl Try.func14 (by kernel_rfl) rfl #[.slice Ao9 t139.length co9, .int .i64 (Int.tmod (wrap64 (a2)) (t139.length : Int)), .int .i64 (Int.tmod (wrap64 (a1)) (t139.length : Int))] rfl (by (try simp only [List.map_toArray, List.map_cons, List.map_nil]); first | done | rfl | (simp only [List.length_drop, List.length_take]; rfl)) ?_; (with_reducible refine (tree_Meet.calls k _ _ t139 (Int.tmod (wrap64 (a2)) (t139.length : Int)) (Int.tmod (wrap64 (a1)) (t139.length : Int)) t143 _ ?side1 ?side2 A10.out).mono ?_); (case side1 => repeat (first | exact (Kd.R_reads' HO141.out).2.2 | (with_reducible refine Kd.C_alloc ?_ _) | (with_reducible refine Kd.C_drewN ?_ _) | (with_reducible refine Kd.C_drew ?_))); (case side2 => exact (Kd.R_reads' HO141.out).2.1); rintro e w' ⟨rfl, ⟨nd, rfl⟩⟩; refine ⟨_, rfl, ?_⟩))
        go_meet
        case rel => exact ⟨_, (true), (by first | rfl | (simp; done) | (simp [*]; done)), H', ⟨by first | omega | exact Nat.le_refl _⟩, ⟨by (with_reducible repeat (first | apply Kd.R_alloc | apply Kd.R_drewN | apply Kd.R_drew)); exact HO141.out⟩, ⟨by repeat (first | (with_reducible first | exact HB.out | apply below_alloc | apply pw_below_drewN | apply below_drew1) | exact HB.out)⟩⟩
    case rest =>
      clear HC7
      try clear c1
      try clear p2
      try clear c4
      try clear c5
      try clear c5b0
      try clear c5b1
      try clear c5b2
      try clear p6
      try clear c10
      try clear c11
      try clear c11b0
      try clear c11b1
      try clear c13
      try clear c13b0
      try clear c13b1
      try clear c14
      try clear c14b0
      obtain ⟨kq, x52_6, rfl, HA, HJ6, HO_7, HB⟩ := hcut
      cases kq with
      | zero => exact absurd HA.out (by simp [pacelinelaw05_TreeMeets.j0])
      | succ kj6 =>
        have H := HA.out
        clear HA
        simp only [pacelinelaw05_TreeMeets.j0] at H
        by_cases c18 : x52_6 = true
        · subst c18
          have H1 : (some false) = some r := by rw [if_pos rfl] at H; exact H
          clear H
          have H := H1
          clear H1
          obtain rfl := Option.some.inj H
          go_wp2
          go_ret
          exact ⟨by first | rfl | (simp [errW_none, errW_some] <;> rfl) | (simp [*, errW_none, errW_some] <;> rfl), by repeat (first | (with_reducible first | exact HB.out | apply below_alloc | apply pw_below_drewN | apply below_drew1) | exact HB.out)⟩
        · replace c18 := Bool.eq_false_iff.mpr c18
          subst c18
          have H1 : (pacelinelaw05_TreeMeets.l0 kj6 t139 (Int.tmod (wrap64 (a1)) (t139.length : Int)) (Int.tmod (wrap64 (a2)) (t139.length : Int)) t142 0) = some r := by rw [if_neg (show ¬ (false = true) by decide)] at H; exact H
          clear H
          have H := H1
          clear H1
          have H' := Aside0.mk H
          clear H
          go_wp2
          go_loopg [11] kj6 (fun kq v11 w' => ∃ (x11_2 : Int), v11 = .int .i64 x11_2 ∧ Aside0 (pacelinelaw05_TreeMeets.l0 kq t139 (Int.tmod (wrap64 (a1)) (t139.length : Int)) (Int.tmod (wrap64 (a2)) (t139.length : Int)) t142 x11_2 = some r) ∧ Aside0 (kq ≤ kj6) ∧ Aside0 (Kd.R (Kd.int .i64) 3 w' w.heap.size (fun _ => True) (.slice Ao9 t139.length co9) t139) ∧ Aside0 (Below w.heap.size w w'))
          case atStart => exact ⟨(0), (by first | rfl | (simp; done) | (simp [*]; done)), H', ⟨Nat.le_refl _⟩, ⟨by (with_reducible repeat (first | apply Kd.R_alloc | apply Kd.R_drewN | apply Kd.R_drew)); exact HO_7.out⟩, ⟨by repeat (first | (with_reducible first | exact HB.out | apply below_alloc | apply pw_below_drewN | apply below_drew1) | exact HB.out)⟩⟩
          case round =>
            clear H'
            try clear c1
            try clear p2
            try clear c4
            try clear c5
            try clear c5b0
            try clear c5b1
            try clear c5b2
            try clear p6
            try clear c10
            try clear c11
            try clear c11b0
            try clear c11b1
            try clear c13
            try clear c13b0
            try clear c13b1
            try clear c14
            try clear c14b0
            try clear c18
            try clear p2
            try clear p6
            obtain ⟨x11_2, rfl, HA, HK2, HO_7, HB⟩ := hrel
            cases gk with
            | zero => exact absurd HA.out (by simp [pacelinelaw05_TreeMeets.l0])
            | succ k2 =>
              have H := HA.out
              clear HA
              simp only [pacelinelaw05_TreeMeets.l0] at H
              by_cases c19 : x11_2 < (t139.length : Int)
              · rw [if_pos c19] at H
                have c19b0 : decide (x11_2 < (t139.length : Int)) = true := decide_eq_true c19
                clear c19
                replace H := Option.bind_eq_some_iff.mp H
                obtain ⟨t147, A200, H⟩ := H
                replace H : (if t147 = true then ((tree_IsA.f t139 (Int.tmod (wrap64 (a2)) (t139.length : Int)) x11_2).bind fun t148 => (if t148 = true then (if t142 < 0 then (some false) else ((tree_IsA.f t139 t142 x11_2).bind fun t149 => (if t149 = true then (pacelinelaw05_TreeMeets.l0 k2 t139 (Int.tmod (wrap64 (a1)) (t139.length : Int)) (Int.tmod (wrap64 (a2)) (t139.length : Int)) t142 (wrap64 (x11_2 + 1))) else (some false)))) else (pacelinelaw05_TreeMeets.l0 k2 t139 (Int.tmod (wrap64 (a1)) (t139.length : Int)) (Int.tmod (wrap64 (a2)) (t139.length : Int)) t142 (wrap64 (x11_2 + 1))))) else (pacelinelaw05_TreeMeets.l0 k2 t139 (Int.tmod (wrap64 (a1)) (t139.length : Int)) (Int.tmod (wrap64 (a2)) (t139.length : Int)) t142 (wrap64 (x11_2 + 1)))) = some r := H
                have A20 := Aside0.mk A200
                clear A200
                by_cases c21 : t147 = true
                · subst c21
                  have H1 : ((tree_IsA.f t139 (Int.tmod (wrap64 (a2)) (t139.length : Int)) x11_2).bind fun t148 => (if t148 = true then (if t142 < 0 then (some false) else ((tree_IsA.f t139 t142 x11_2).bind fun t149 => (if t149 = true then (pacelinelaw05_TreeMeets.l0 k2 t139 (Int.tmod (wrap64 (a1)) (t139.length : Int)) (Int.tmod (wrap64 (a2)) (t139.length : Int)) t142 (wrap64 (x11_2 + 1))) else (some false)))) else (pacelinelaw05_TreeMeets.l0 k2 t139 (Int.tmod (wrap64 (a1)) (t139.length : Int)) (Int.tmod (wrap64 (a2)) (t139.length : Int)) t142 (wrap64 (x11_2 + 1))))) = some r := by rw [if_pos rfl] at H; exact H
                  clear H
                  have H := H1
                  clear H1
                  replace H := Option.bind_eq_some_iff.mp H
                  obtain ⟨t148, A220, H⟩ := H
                  replace H : (if t148 = true then (if t142 < 0 then (some false) else ((tree_IsA.f t139 t142 x11_2).bind fun t149 => (if t149 = true then (pacelinelaw05_TreeMeets.l0 k2 t139 (Int.tmod (wrap64 (a1)) (t139.length : Int)) (Int.tmod (wrap64 (a2)) (t139.length : Int)) t142 (wrap64 (x11_2 + 1))) else (some false)))) else (pacelinelaw05_TreeMeets.l0 k2 t139 (Int.tmod (wrap64 (a1)) (t139.length : Int)) (Int.tmod (wrap64 (a2)) (t139.length : Int)) t142 (wrap64 (x11_2 + 1)))) = some r := H
                  have A22 := Aside0.mk A220
                  clear A220
                  by_cases c23 : t148 = true
                  · subst c23
                    have H1 : (if t142 < 0 then (some false) else ((tree_IsA.f t139 t142 x11_2).bind fun t149 => (if t149 = true then (pacelinelaw05_TreeMeets.l0 k2 t139 (Int.tmod (wrap64 (a1)) (t139.length : Int)) (Int.tmod (wrap64 (a2)) (t139.length : Int)) t142 (wrap64 (x11_2 + 1))) else (some false)))) = some r := by rw [if_pos rfl] at H; exact H
                    clear H
                    have H := H1
                    clear H1
                    by_cases c24 : t142 < 0
                    · rw [if_pos c24] at H
                      have c24b0 : decide (t142 < 0) = true := decide_eq_true c24
                      clear c24
                      obtain rfl := Option.some.inj H
                      go_wp2_with (first | ((with_reducible refine gate_callee (f := 11) rfl ?_); refine goesL_ (some 62) rfl rfl Try.func11 (by kernel_rfl) rfl #[.slice Ao9 t139.length co9, .int .i64 (Int.tmod (wrap64 (a1)) (t139.length : Int)), .int .i64 x11_2] rfl (by (try simp only [List.map_toArray, List.map_cons, List.map_nil]); first | done | rfl | (simp only [List.length_drop, List.length_take]; rfl)) ?_; (with_reducible refine (tree_IsA.calls _ _ t139 (Int.tmod (wrap64 (a1)) (t139.length : Int)) x11_2 true _ ?side1 ?side2 A20.out).mono ?_); (case side1 => repeat (first | exact (Kd.R_reads' HO_7.out).2.2 | (with_reducible refine Kd.C_alloc ?_ _) | (with_reducible refine Kd.C_drewN ?_ _) | (with_reducible refine Kd.C_drew ?_))); (case side2 => exact (Kd.R_reads' HO_7.out).2.1); rintro e w25 ⟨rfl, hb⟩; refine ⟨_, rfl, ?_⟩; have n0_ := Aside0.mk (Kd.R_below (by (with_reducible repeat (first | apply Kd.R_alloc | apply Kd.R_drewN | apply Kd.R_drew)); exact HO_7.out) hb); have n1_ := Aside0.mk (below_step (by repeat (first | (with_reducible first | exact HB.out | apply below_alloc | apply pw_below_drewN | apply below_drew1) | exact HB.out)) hb); clear HO_7; clear HB; have HO_7 := n0_; have HB := n1_; clear n0_ n1_; (try clear hb); (try clear hb2); (try clear hk); (try clear hi)) | (go_at_call 11; (with_reducible refine (tree_IsA.calls _ _ t139 (Int.tmod (wrap64 (a2)) (t139.length : Int)) x11_2 true _ ?side1 ?side2 A22.out).mono ?_); (case side1 => repeat (first | exact (Kd.R_reads' HO_7.out).2.2 | (with_reducible refine Kd.C_alloc ?_ _) | (with_reducible refine Kd.C_drewN ?_ _) | (with_reducible refine Kd.C_drew ?_))); (case side2 => exact (Kd.R_reads' HO_7.out).2.1); rintro e w26 ⟨rfl, hb⟩; have n0_ := Aside0.mk (Kd.R_below (by (with_reducible repeat (first | apply Kd.R_alloc | apply Kd.R_drewN | apply Kd.R_drew)); exact HO_7.out) hb); have n1_ := Aside0.mk (below_step (by repeat (first | (with_reducible first | exact HB.out | apply below_alloc | apply pw_below_drewN | apply below_drew1) | exact HB.out)) hb); clear HO_7; clear HB; have HO_7 := n0_; have HB := n1_; clear n0_ n1_; (try clear hb); (try clear hb2); (try clear hk); (try clear hi)))
                      go_ret
                      exact ⟨by first | rfl | (simp [errW_none, errW_some] <;> rfl) | (simp [*, errW_none, errW_some] <;> rfl), by repeat (first | (with_reducible first | exact HB.out | apply below_alloc | apply pw_below_drewN | apply below_drew1) | exact HB.out)⟩
                    · rw [if_neg c24] at H
                      have c24b0 : decide (t142 < 0) = false := decide_eq_false c24
                      clear c24
                      replace H := Option.bind_eq_some_iff.mp H
                      obtain ⟨t149, A270, H⟩ := H
                      replace H : (if t149 = true then (pacelinelaw05_TreeMeets.l0 k2 t139 (Int.tmod (wrap64 (a1)) (t139.length : Int)) (Int.tmod (wrap64 (a2)) (t139.length : Int)) t142 (wrap64 (x11_2 + 1))) else (some false)) = some r := H
                      have A27 := Aside0.mk A270
                      clear A270
                      by_cases c28 : t149 = true
                      · subst c28
                        have H1 : (pacelinelaw05_TreeMeets.l0 k2 t139 (Int.tmod (wrap64 (a1)) (t139.length : Int)) (Int.tmod (wrap64 (a2)) (t139.length : Int)) t142 (wrap64 (x11_2 + 1))) = some r := by rw [if_pos rfl] at H; exact H
                        clear H
                        have H := H1
                        clear H1
                        have H' := Aside0.mk H
                        clear H
                        go_wp2_with (first | ((with_reducible refine gate_callee (f := 11) rfl ?_); refine goesL_ (some 62) rfl rfl Try.func11 (by kernel_rfl) rfl #[.slice Ao9 t139.length co9, .int .i64 (Int.tmod (wrap64 (a1)) (t139.length : Int)), .int .i64 x11_2] rfl (by (try simp only [List.map_toArray, List.map_cons, List.map_nil]); first | done | rfl | (simp only [List.length_drop, List.length_take]; rfl)) ?_; (with_reducible refine (tree_IsA.calls _ _ t139 (Int.tmod (wrap64 (a1)) (t139.length : Int)) x11_2 true _ ?side1 ?side2 A20.out).mono ?_); (case side1 => repeat (first | exact (Kd.R_reads' HO_7.out).2.2 | (with_reducible refine Kd.C_alloc ?_ _) | (with_reducible refine Kd.C_drewN ?_ _) | (with_reducible refine Kd.C_drew ?_))); (case side2 => exact (Kd.R_reads' HO_7.out).2.1); rintro e w29 ⟨rfl, hb⟩; refine ⟨_, rfl, ?_⟩; have n0_ := Aside0.mk (Kd.R_below (by (with_reducible repeat (first | apply Kd.R_alloc | apply Kd.R_drewN | apply Kd.R_drew)); exact HO_7.out) hb); have n1_ := Aside0.mk (below_step (by repeat (first | (with_reducible first | exact HB.out | apply below_alloc | apply pw_below_drewN | apply below_drew1) | exact HB.out)) hb); clear HO_7; clear HB; have HO_7 := n0_; have HB := n1_; clear n0_ n1_; (try clear hb); (try clear hb2); (try clear hk); (try clear hi)) | (go_at_call 11; (with_reducible refine (tree_IsA.calls _ _ t139 (Int.tmod (wrap64 (a2)) (t139.length : Int)) x11_2 true _ ?side1 ?side2 A22.out).mono ?_); (case side1 => repeat (first | exact (Kd.R_reads' HO_7.out).2.2 | (with_reducible refine Kd.C_alloc ?_ _) | (with_reducible refine Kd.C_drewN ?_ _) | (with_reducible refine Kd.C_drew ?_))); (case side2 => exact (Kd.R_reads' HO_7.out).2.1); rintro e w30 ⟨rfl, hb⟩; have n0_ := Aside0.mk (Kd.R_below (by (with_reducible repeat (first | apply Kd.R_alloc | apply Kd.R_drewN | apply Kd.R_drew)); exact HO_7.out) hb); have n1_ := Aside0.mk (below_step (by repeat (first | (with_reducible first | exact HB.out | apply below_alloc | apply pw_below_drewN | apply below_drew1) | exact HB.out)) hb); clear HO_7; clear HB; have HO_7 := n0_; have HB := n1_; clear n0_ n1_; (try clear hb); (try clear hb2); (try clear hk); (try clear hi)) | (go_at_call 11; (with_reducible refine (tree_IsA.calls _ _ t139 t142 x11_2 true _ ?side1 ?side2 A27.out).mono ?_); (case side1 => repeat (first | exact (Kd.R_reads' HO_7.out).2.2 | (with_reducible refine Kd.C_alloc ?_ _) | (with_reducible refine Kd.C_drewN ?_ _) | (with_reducible refine Kd.C_drew ?_))); (case side2 => exact (Kd.R_reads' HO_7.out).2.1); rintro e w31 ⟨rfl, hb⟩; have n0_ := Aside0.mk (Kd.R_below (by (with_reducible repeat (first | apply Kd.R_alloc | apply Kd.R_drewN | apply Kd.R_drew)); exact HO_7.out) hb); have n1_ := Aside0.mk (below_step (by repeat (first | (with_reducible first | exact HB.out | apply below_alloc | apply pw_below_drewN | apply below_drew1) | exact HB.out)) hb); clear HO_7; clear HB; have HO_7 := n0_; have HB := n1_; clear n0_ n1_; (try clear hb); (try clear hb2); (try clear hk); (try clear hi)))
                        go_roundg k2
                        case measure => have := HJ6.out; have := HK2.out; omega
                        case rel => exact ⟨(wrap64 (x11_2 + 1)), (by first | rfl | (simp; done) | (simp [*]; done)), H', ⟨by have := HJ6.out; have := HK2.out; omega⟩, ⟨by (with_reducible repeat (first | apply Kd.R_alloc | apply Kd.R_drewN | apply Kd.R_drew)); exact HO_7.out⟩, ⟨by repeat (first | (with_reducible first | exact HB.out | apply below_alloc | apply pw_below_drewN | apply below_drew1) | exact HB.out)⟩⟩
                      · replace c28 := Bool.eq_false_iff.mpr c28
                        subst c28
                        have H1 : (some false) = some r := by rw [if_neg (show ¬ (false = true) by decide)] at H; exact H
                        clear H
                        have H := H1
                        clear H1
                        obtain rfl := Option.some.inj H
                        go_wp2_with (first | ((with_reducible refine gate_callee (f := 11) rfl ?_); refine goesL_ (some 62) rfl rfl Try.func11 (by kernel_rfl) rfl #[.slice Ao9 t139.length co9, .int .i64 (Int.tmod (wrap64 (a1)) (t139.length : Int)), .int .i64 x11_2] rfl (by (try simp only [List.map_toArray, List.map_cons, List.map_nil]); first | done | rfl | (simp only [List.length_drop, List.length_take]; rfl)) ?_; (with_reducible refine (tree_IsA.calls _ _ t139 (Int.tmod (wrap64 (a1)) (t139.length : Int)) x11_2 true _ ?side1 ?side2 A20.out).mono ?_); (case side1 => repeat (first | exact (Kd.R_reads' HO_7.out).2.2 | (with_reducible refine Kd.C_alloc ?_ _) | (with_reducible refine Kd.C_drewN ?_ _) | (with_reducible refine Kd.C_drew ?_))); (case side2 => exact (Kd.R_reads' HO_7.out).2.1); rintro e w32 ⟨rfl, hb⟩; refine ⟨_, rfl, ?_⟩; have n0_ := Aside0.mk (Kd.R_below (by (with_reducible repeat (first | apply Kd.R_alloc | apply Kd.R_drewN | apply Kd.R_drew)); exact HO_7.out) hb); have n1_ := Aside0.mk (below_step (by repeat (first | (with_reducible first | exact HB.out | apply below_alloc | apply pw_below_drewN | apply below_drew1) | exact HB.out)) hb); clear HO_7; clear HB; have HO_7 := n0_; have HB := n1_; clear n0_ n1_; (try clear hb); (try clear hb2); (try clear hk); (try clear hi)) | (go_at_call 11; (with_reducible refine (tree_IsA.calls _ _ t139 (Int.tmod (wrap64 (a2)) (t139.length : Int)) x11_2 true _ ?side1 ?side2 A22.out).mono ?_); (case side1 => repeat (first | exact (Kd.R_reads' HO_7.out).2.2 | (with_reducible refine Kd.C_alloc ?_ _) | (with_reducible refine Kd.C_drewN ?_ _) | (with_reducible refine Kd.C_drew ?_))); (case side2 => exact (Kd.R_reads' HO_7.out).2.1); rintro e w33 ⟨rfl, hb⟩; have n0_ := Aside0.mk (Kd.R_below (by (with_reducible repeat (first | apply Kd.R_alloc | apply Kd.R_drewN | apply Kd.R_drew)); exact HO_7.out) hb); have n1_ := Aside0.mk (below_step (by repeat (first | (with_reducible first | exact HB.out | apply below_alloc | apply pw_below_drewN | apply below_drew1) | exact HB.out)) hb); clear HO_7; clear HB; have HO_7 := n0_; have HB := n1_; clear n0_ n1_; (try clear hb); (try clear hb2); (try clear hk); (try clear hi)) | (go_at_call 11; (with_reducible refine (tree_IsA.calls _ _ t139 t142 x11_2 false _ ?side1 ?side2 A27.out).mono ?_); (case side1 => repeat (first | exact (Kd.R_reads' HO_7.out).2.2 | (with_reducible refine Kd.C_alloc ?_ _) | (with_reducible refine Kd.C_drewN ?_ _) | (with_reducible refine Kd.C_drew ?_))); (case side2 => exact (Kd.R_reads' HO_7.out).2.1); rintro e w34 ⟨rfl, hb⟩; have n0_ := Aside0.mk (Kd.R_below (by (with_reducible repeat (first | apply Kd.R_alloc | apply Kd.R_drewN | apply Kd.R_drew)); exact HO_7.out) hb); have n1_ := Aside0.mk (below_step (by repeat (first | (with_reducible first | exact HB.out | apply below_alloc | apply pw_below_drewN | apply below_drew1) | exact HB.out)) hb); clear HO_7; clear HB; have HO_7 := n0_; have HB := n1_; clear n0_ n1_; (try clear hb); (try clear hb2); (try clear hk); (try clear hi)))
                        go_ret
                        exact ⟨by first | rfl | (simp [errW_none, errW_some] <;> rfl) | (simp [*, errW_none, errW_some] <;> rfl), by repeat (first | (with_reducible first | exact HB.out | apply below_alloc | apply pw_below_drewN | apply below_drew1) | exact HB.out)⟩
                  · replace c23 := Bool.eq_false_iff.mpr c23
                    subst c23
                    have H1 : (pacelinelaw05_TreeMeets.l0 k2 t139 (Int.tmod (wrap64 (a1)) (t139.length : Int)) (Int.tmod (wrap64 (a2)) (t139.length : Int)) t142 (wrap64 (x11_2 + 1))) = some r := by rw [if_neg (show ¬ (false = true) by decide)] at H; exact H
                    clear H
                    have H := H1
                    clear H1
                    have H' := Aside0.mk H
                    clear H
                    go_wp2_with (first | ((with_reducible refine gate_callee (f := 11) rfl ?_); refine goesL_ (some 62) rfl rfl Try.func11 (by kernel_rfl) rfl #[.slice Ao9 t139.length co9, .int .i64 (Int.tmod (wrap64 (a1)) (t139.length : Int)), .int .i64 x11_2] rfl (by (try simp only [List.map_toArray, List.map_cons, List.map_nil]); first | done | rfl | (simp only [List.length_drop, List.length_take]; rfl)) ?_; (with_reducible refine (tree_IsA.calls _ _ t139 (Int.tmod (wrap64 (a1)) (t139.length : Int)) x11_2 true _ ?side1 ?side2 A20.out).mono ?_); (case side1 => repeat (first | exact (Kd.R_reads' HO_7.out).2.2 | (with_reducible refine Kd.C_alloc ?_ _) | (with_reducible refine Kd.C_drewN ?_ _) | (with_reducible refine Kd.C_drew ?_))); (case side2 => exact (Kd.R_reads' HO_7.out).2.1); rintro e w35 ⟨rfl, hb⟩; refine ⟨_, rfl, ?_⟩; have n0_ := Aside0.mk (Kd.R_below (by (with_reducible repeat (first | apply Kd.R_alloc | apply Kd.R_drewN | apply Kd.R_drew)); exact HO_7.out) hb); have n1_ := Aside0.mk (below_step (by repeat (first | (with_reducible first | exact HB.out | apply below_alloc | apply pw_below_drewN | apply below_drew1) | exact HB.out)) hb); clear HO_7; clear HB; have HO_7 := n0_; have HB := n1_; clear n0_ n1_; (try clear hb); (try clear hb2); (try clear hk); (try clear hi)) | (go_at_call 11; (with_reducible refine (tree_IsA.calls _ _ t139 (Int.tmod (wrap64 (a2)) (t139.length : Int)) x11_2 false _ ?side1 ?side2 A22.out).mono ?_); (case side1 => repeat (first | exact (Kd.R_reads' HO_7.out).2.2 | (with_reducible refine Kd.C_alloc ?_ _) | (with_reducible refine Kd.C_drewN ?_ _) | (with_reducible refine Kd.C_drew ?_))); (case side2 => exact (Kd.R_reads' HO_7.out).2.1); rintro e w36 ⟨rfl, hb⟩; have n0_ := Aside0.mk (Kd.R_below (by (with_reducible repeat (first | apply Kd.R_alloc | apply Kd.R_drewN | apply Kd.R_drew)); exact HO_7.out) hb); have n1_ := Aside0.mk (below_step (by repeat (first | (with_reducible first | exact HB.out | apply below_alloc | apply pw_below_drewN | apply below_drew1) | exact HB.out)) hb); clear HO_7; clear HB; have HO_7 := n0_; have HB := n1_; clear n0_ n1_; (try clear hb); (try clear hb2); (try clear hk); (try clear hi)))
                    go_roundg k2
                    case measure => have := HJ6.out; have := HK2.out; omega
                    case rel => exact ⟨(wrap64 (x11_2 + 1)), (by first | rfl | (simp; done) | (simp [*]; done)), H', ⟨by have := HJ6.out; have := HK2.out; omega⟩, ⟨by (with_reducible repeat (first | apply Kd.R_alloc | apply Kd.R_drewN | apply Kd.R_drew)); exact HO_7.out⟩, ⟨by repeat (first | (with_reducible first | exact HB.out | apply below_alloc | apply pw_below_drewN | apply below_drew1) | exact HB.out)⟩⟩
                · replace c21 := Bool.eq_false_iff.mpr c21
                  subst c21
                  have H1 : (pacelinelaw05_TreeMeets.l0 k2 t139 (Int.tmod (wrap64 (a1)) (t139.length : Int)) (Int.tmod (wrap64 (a2)) (t139.length : Int)) t142 (wrap64 (x11_2 + 1))) = some r := by rw [if_neg (show ¬ (false = true) by decide)] at H; exact H
                  clear H
                  have H := H1
                  clear H1
                  have H' := Aside0.mk H
                  clear H
                  go_wp2_with (first | ((with_reducible refine gate_callee (f := 11) rfl ?_); refine goesL_ (some 62) rfl rfl Try.func11 (by kernel_rfl) rfl #[.slice Ao9 t139.length co9, .int .i64 (Int.tmod (wrap64 (a1)) (t139.length : Int)), .int .i64 x11_2] rfl (by (try simp only [List.map_toArray, List.map_cons, List.map_nil]); first | done | rfl | (simp only [List.length_drop, List.length_take]; rfl)) ?_; (with_reducible refine (tree_IsA.calls _ _ t139 (Int.tmod (wrap64 (a1)) (t139.length : Int)) x11_2 false _ ?side1 ?side2 A20.out).mono ?_); (case side1 => repeat (first | exact (Kd.R_reads' HO_7.out).2.2 | (with_reducible refine Kd.C_alloc ?_ _) | (with_reducible refine Kd.C_drewN ?_ _) | (with_reducible refine Kd.C_drew ?_))); (case side2 => exact (Kd.R_reads' HO_7.out).2.1); rintro e w37 ⟨rfl, hb⟩; refine ⟨_, rfl, ?_⟩; have n0_ := Aside0.mk (Kd.R_below (by (with_reducible repeat (first | apply Kd.R_alloc | apply Kd.R_drewN | apply Kd.R_drew)); exact HO_7.out) hb); have n1_ := Aside0.mk (below_step (by repeat (first | (with_reducible first | exact HB.out | apply below_alloc | apply pw_below_drewN | apply below_drew1) | exact HB.out)) hb); clear HO_7; clear HB; have HO_7 := n0_; have HB := n1_; clear n0_ n1_; (try clear hb); (try clear hb2); (try clear hk); (try clear hi)))
                  go_roundg k2
                  case measure => have := HJ6.out; have := HK2.out; omega
                  case rel => exact ⟨(wrap64 (x11_2 + 1)), (by first | rfl | (simp; done) | (simp [*]; done)), H', ⟨by have := HJ6.out; have := HK2.out; omega⟩, ⟨by (with_reducible repeat (first | apply Kd.R_alloc | apply Kd.R_drewN | apply Kd.R_drew)); exact HO_7.out⟩, ⟨by repeat (first | (with_reducible first | exact HB.out | apply below_alloc | apply pw_below_drewN | apply below_drew1) | exact HB.out)⟩⟩
              · rw [if_neg c19] at H
                have c19b0 : decide (x11_2 < (t139.length : Int)) = false := decide_eq_false c19
                clear c19
                by_cases c38 : t142 < 0
                · rw [if_pos c38] at H
                  have c38b0 : decide (t142 < 0) = true := decide_eq_true c38
                  clear c38
                  obtain rfl := Option.some.inj H
                  go_wp2
                  go_ret
                  exact ⟨by first | rfl | (simp [errW_none, errW_some] <;> rfl) | (simp [*, errW_none, errW_some] <;> rfl), by repeat (first | (with_reducible first | exact HB.out | apply below_alloc | apply pw_below_drewN | apply below_drew1) | exact HB.out)⟩
                · rw [if_neg c38] at H
                  have c38b0 : decide (t142 < 0) = false := decide_eq_false c38
                  clear c38
                  replace H := Option.bind_eq_some_iff.mp H
                  obtain ⟨t145, A390, H⟩ := H
                  replace H : (if t145 = true then ((tree_IsA.f t139 (Int.tmod (wrap64 (a2)) (t139.length : Int)) t142).bind fun t146 => (some t146)) else (some false)) = some r := H
                  have A39 := Aside0.mk A390
                  clear A390
                  by_cases c40 : t145 = true
                  · subst c40
                    have H1 : ((tree_IsA.f t139 (Int.tmod (wrap64 (a2)) (t139.length : Int)) t142).bind fun t146 => (some t146)) = some r := by rw [if_pos rfl] at H; exact H
                    clear H
                    have H := H1
                    clear H1
                    replace H := Option.bind_eq_some_iff.mp H
                    obtain ⟨t146, A410, H⟩ := H
                    replace H : (some t146) = some r := H
                    have A41 := Aside0.mk A410
                    clear A410
                    obtain rfl := Option.some.inj H
                    go_wp2_with (first | (go_at_call 11; (with_reducible refine (tree_IsA.calls _ _ t139 (Int.tmod (wrap64 (a1)) (t139.length : Int)) t142 true _ ?side1 ?side2 A39.out).mono ?_); (case side1 => repeat (first | exact (Kd.R_reads' HO_7.out).2.2 | (with_reducible refine Kd.C_alloc ?_ _) | (with_reducible refine Kd.C_drewN ?_ _) | (with_reducible refine Kd.C_drew ?_))); (case side2 => exact (Kd.R_reads' HO_7.out).2.1); rintro e w42 ⟨rfl, hb⟩; have n0_ := Aside0.mk (Kd.R_below (by (with_reducible repeat (first | apply Kd.R_alloc | apply Kd.R_drewN | apply Kd.R_drew)); exact HO_7.out) hb); have n1_ := Aside0.mk (below_step (by repeat (first | (with_reducible first | exact HB.out | apply below_alloc | apply pw_below_drewN | apply below_drew1) | exact HB.out)) hb); clear HO_7; clear HB; have HO_7 := n0_; have HB := n1_; clear n0_ n1_; (try clear hb); (try clear hb2); (try clear hk); (try clear hi)) | (go_at_call 11; (with_reducible refine (tree_IsA.calls _ _ t139 (Int.tmod (wrap64 (a2)) (t139.length : Int)) t142 t146 _ ?side1 ?side2 A41.out).mono ?_); (case side1 => repeat (first | exact (Kd.R_reads' HO_7.out).2.2 | (with_reducible refine Kd.C_alloc ?_ _) | (with_reducible refine Kd.C_drewN ?_ _) | (with_reducible refine Kd.C_drew ?_))); (case side2 => exact (Kd.R_reads' HO_7.out).2.1); rintro e w43 ⟨rfl, hb⟩; have n0_ := Aside0.mk (Kd.R_below (by (with_reducible repeat (first | apply Kd.R_alloc | apply Kd.R_drewN | apply Kd.R_drew)); exact HO_7.out) hb); have n1_ := Aside0.mk (below_step (by repeat (first | (with_reducible first | exact HB.out | apply below_alloc | apply pw_below_drewN | apply below_drew1) | exact HB.out)) hb); clear HO_7; clear HB; have HO_7 := n0_; have HB := n1_; clear n0_ n1_; (try clear hb); (try clear hb2); (try clear hk); (try clear hi)))
                    go_ret
                    exact ⟨by first | rfl | (simp [errW_none, errW_some] <;> rfl) | (simp [*, errW_none, errW_some] <;> rfl), by repeat (first | (with_reducible first | exact HB.out | apply below_alloc | apply pw_below_drewN | apply below_drew1) | exact HB.out)⟩
                  · replace c40 := Bool.eq_false_iff.mpr c40
                    subst c40
                    have H1 : (some false) = some r := by rw [if_neg (show ¬ (false = true) by decide)] at H; exact H
                    clear H
                    have H := H1
                    clear H1
                    obtain rfl := Option.some.inj H
                    go_wp2_with (first | (go_at_call 11; (with_reducible refine (tree_IsA.calls _ _ t139 (Int.tmod (wrap64 (a1)) (t139.length : Int)) t142 false _ ?side1 ?side2 A39.out).mono ?_); (case side1 => repeat (first | exact (Kd.R_reads' HO_7.out).2.2 | (with_reducible refine Kd.C_alloc ?_ _) | (with_reducible refine Kd.C_drewN ?_ _) | (with_reducible refine Kd.C_drew ?_))); (case side2 => exact (Kd.R_reads' HO_7.out).2.1); rintro e w44 ⟨rfl, hb⟩; have n0_ := Aside0.mk (Kd.R_below (by (with_reducible repeat (first | apply Kd.R_alloc | apply Kd.R_drewN | apply Kd.R_drew)); exact HO_7.out) hb); have n1_ := Aside0.mk (below_step (by repeat (first | (with_reducible first | exact HB.out | apply below_alloc | apply pw_below_drewN | apply below_drew1) | exact HB.out)) hb); clear HO_7; clear HB; have HO_7 := n0_; have HB := n1_; clear n0_ n1_; (try clear hb); (try clear hb2); (try clear hk); (try clear hi)))
                    go_ret
                    exact ⟨by first | rfl | (simp [errW_none, errW_some] <;> rfl) | (simp [*, errW_none, errW_some] <;> rfl), by repeat (first | (with_reducible first | exact HB.out | apply below_alloc | apply pw_below_drewN | apply below_drew1) | exact HB.out)⟩

/-- THE ONE PURE STATEMENT of pacelinelaw05_TreeMeets. -/
def pacelinelaw05_TreeMeets.Pure : Prop := ∀ (l0 : List Int) (a1 : Int) (a2 : Int), OkAll (fun n_ => (Lit.int .u8 n_).wf = true) l0 → (Lit.int .u8 a1).wf = true → (Lit.int .u8 a2).wf = true → ∃ k, pacelinelaw05_TreeMeets.f k l0 a1 a2 = some true

end Go.Proofs.Ytecjpnfhanimiaa.PTreeMeets
