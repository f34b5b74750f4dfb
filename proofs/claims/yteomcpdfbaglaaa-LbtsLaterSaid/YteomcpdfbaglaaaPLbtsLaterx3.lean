-- Written by gp.py (this project's driver over the kit's print) out of the translation and wip/given; Lean checks it.
import Derived.Test.YteomcpdfbaglaaaPLbtsLaterx0
import Derived.Test.YteomcpdfbaglaaaPLbtsLaterx1
import Derived.Test.YteomcpdfbaglaaaPLbtsLaterx2
namespace Go.Proofs.Yteomcpdfbaglaaa.PLbtsLater
open Go.RowKit Go.Proofs.YteomcpdfbaglaaaR Go.Proofs.YteomcpdfbaglaaaW.PrintWords Go.Proofs.YteomcpdfbaglaaaW.PrintLast Go.Proofs.YteomcpdfbaglaaaW.PrintMore
attribute [local go_sem] max2_int min2_int max_two min_two max_three min_three max_four min_four   -- for this text's walks alone
set_option linter.unusedVariables false
set_option linter.unusedSimpArgs false

/-! ### lbts_Lbts: function 14 -/
def lbts_Lbts.l0 : Nat → List (S30) → Int → Int → List Int → Int → Int → Option (Int)
  | 0, _, _, _, _, _, _ => none
  | k + 1, x0, x1, x5, x9, x10, x11 => if x11 < x10 then (if 0 ≤ x11 then (if x11 < (x9.length : Int) then (if x11 = x1 then (lbts_Lbts.l0 k x0 x1 x5 x9 x10 (wrap64 (x11 + 1))) else (if x11 < (x0.length : Int) then (if (rd_T30 x0 x11).f0 = true then (lbts_Lbts.l0 k x0 x1 (mn x5 (rd x9 x11)) x9 x10 (wrap64 (x11 + 1))) else (lbts_Lbts.l0 k x0 x1 x5 x9 x10 (wrap64 (x11 + 1)))) else (none))) else (none)) else (none)) else (some x5)
def lbts_Lbts.f (k : Nat) (l0 : List (S30)) (a1 : Int) : Option (Int) := (lbts_Outputs.f l0).bind fun t125 => (lbts_Lbts.l0 k l0 a1 1125899906842624 t125 (t125.length : Int) 0)
theorem lbts_Lbts.mono_l : ∀ k, (∀ y0 y1 y2 y3 y4 y5, LeO (lbts_Lbts.l0 k y0 y1 y2 y3 y4 y5) (lbts_Lbts.l0 (k + 1) y0 y1 y2 y3 y4 y5))
  | 0 => fun _ _ _ _ _ _ r h => by simp [lbts_Lbts.l0] at h
  | k + 1 => by
    have ih0 := lbts_Lbts.mono_l k
    · intro y0 y1 y2 y3 y4 y5
      unfold lbts_Lbts.l0
      repeat' first
      | (with_reducible exact ih0 _ _ _ _ _ _)
      | (with_reducible exact LeO.refl _)
      | (with_reducible exact LeO.none _)
      | (with_reducible refine LeO.ite ?_ ?_)
      | (with_reducible refine LeO.bind ?_ (fun _ => ?_))
      | exact ih0 _ _ _ _ _ _
      | exact LeO.none _
      | refine LeO.ite ?_ ?_
      | refine LeO.bind ?_ (fun _ => ?_)
theorem lbts_Lbts.mono : ∀ a0 a1 k, LeO (lbts_Lbts.f k a0 a1) (lbts_Lbts.f (k + 1) a0 a1) := by
  intro a0 a1 k
  have ih0 := lbts_Lbts.mono_l k
  unfold lbts_Lbts.f
  repeat' first
      | (with_reducible exact ih0 _ _ _ _ _ _)
      | (with_reducible exact LeO.refl _)
      | (with_reducible exact LeO.none _)
      | (with_reducible refine LeO.ite ?_ ?_)
      | (with_reducible refine LeO.bind ?_ (fun _ => ?_))
      | exact ih0 _ _ _ _ _ _
      | exact LeO.none _
      | refine LeO.ite ?_ ?_
      | refine LeO.bind ?_ (fun _ => ?_)
set_option maxHeartbeats 8000000 in
set_option maxRecDepth 100000 in
theorem lbts_Lbts.calls (k : Nat) (A0 : Option Addr) (c0 : Nat) (l0 : List (S30)) (a1 : Int) (r : Int) (w : World) (hr0 : Kd.C k30 w A0 l0.length l0) (hc0 : l0.length ≤ c0) (h : lbts_Lbts.f k l0 a1 = some r) :
    Calls Try.prog 14 #[.slice A0 l0.length c0, .int .i64 a1] w fun e w' => e = .returned (.int .i64 r) ∧ Below w.heap.size w w' := by
  have HR0 := Aside0.mk hr0
  have HC0 := Aside0.mk hc0
  clear hr0 hc0
  have HB := Aside0.mk (Below.refl w.heap.size w)
  have H : ((lbts_Outputs.f l0).bind fun t125 => (lbts_Lbts.l0 k l0 a1 1125899906842624 t125 (t125.length : Int) 0)) = some r := h
  clear h
  replace H := Option.bind_eq_some_iff.mp H
  obtain ⟨t125, A30, H⟩ := H
  replace H : (lbts_Lbts.l0 k l0 a1 1125899906842624 t125 (t125.length : Int) 0) = some r := H
  have A3 := Aside0.mk A30
  clear A30
  have H' := Aside0.mk H
  clear H
  go_enter Try.func14, Try.ntmps14
  go_wp2_with (first | ((with_reducible refine gate_callee (f := 9) rfl ?_); refine goesL_ (some 9) rfl rfl Try.func9 (by kernel_rfl) rfl #[.slice A0 l0.length c0] rfl (by (try simp only [List.map_toArray, List.map_cons, List.map_nil]); first | done | rfl | (simp only [List.length_drop, List.length_take]; rfl)) ?_; (with_reducible refine (lbts_Outputs.calls _ _ l0 t125 _ ?side1 ?side2 A3.out).mono ?_); (case side1 => repeat (first | exact HR0.out | (with_reducible refine Kd.C_alloc ?_ _) | (with_reducible refine Kd.C_drewN ?_ _) | (with_reducible refine Kd.C_drew ?_))); (case side2 => exact HC0.out); rintro e w4 ⟨v126, rfl, ho0, hb⟩; refine ⟨_, rfl, ?_⟩; have n0_ := Aside0.mk (Kd.R_lower ho0 (below_size (by repeat (first | (with_reducible first | exact HB.out | apply below_alloc | apply pw_below_drewN | apply below_drew1) | exact HB.out)))); have n1_ := Aside0.mk (below_step (by repeat (first | (with_reducible first | exact HB.out | apply below_alloc | apply pw_below_drewN | apply below_drew1) | exact HB.out)) hb); clear HB; have HO127 := n0_; have HB := n1_; clear n0_ n1_; (try clear hb); (try clear hb2); (try clear hk); (try clear hi); (try clear ho0); obtain ⟨Ao5, co5, eo5⟩ := Kd.R_slice HO127.out; subst eo5))
  go_loopg [5, 11] k (fun kq v5 v11 w' => ∃ (x5_1 : Int) (x11_1 : Int), v5 = .int .i64 x5_1 ∧ v11 = .int .i64 x11_1 ∧ Aside0 (lbts_Lbts.l0 kq l0 a1 x5_1 t125 (t125.length : Int) x11_1 = some r) ∧ Aside0 (kq ≤ k) ∧ Aside0 (Kd.R (Kd.int .i64) 3 w' w.heap.size (fun _ => True) (.slice Ao5 t125.length co5) t125) ∧ Aside0 (Below w.heap.size w w'))
  case atStart => exact ⟨(1125899906842624), (0), (by first | rfl | (simp; done) | (simp [*]; done)), (by first | rfl | (simp; done) | (simp [*]; done)), H', ⟨Nat.le_refl _⟩, ⟨by (with_reducible repeat (first | apply Kd.R_alloc | apply Kd.R_drewN | apply Kd.R_drew)); exact HO127.out⟩, ⟨by repeat (first | (with_reducible first | exact HB.out | apply below_alloc | apply pw_below_drewN | apply below_drew1) | exact HB.out)⟩⟩
  case round =>
    clear H'
    try clear c1
    try clear p2
    obtain ⟨x5_1, x11_1, rfl, rfl, HA, HK1, HO_9, HB⟩ := hrel
    cases gk with
    | zero => exact absurd HA.out (by simp [lbts_Lbts.l0])
    | succ k1 =>
      have H := HA.out
      clear HA
      simp only [lbts_Lbts.l0] at H
      by_cases c6 : x11_1 < (t125.length : Int)
      · rw [if_pos c6] at H
        have c6b0 : decide (x11_1 < (t125.length : Int)) = true := decide_eq_true c6
        clear c6
        by_cases c7 : 0 ≤ x11_1
        · rw [if_pos c7] at H
          have c7b0 : decide (0 ≤ x11_1) = true := decide_eq_true c7
          clear c7
          by_cases c8 : x11_1 < (t125.length : Int)
          · rw [if_pos c8] at H
            have c8b0 : decide (x11_1 < (t125.length : Int)) = true := decide_eq_true c8
            clear c8
            by_cases c9 : x11_1 = a1
            · rw [if_pos c9] at H
              have c9b0 : (x11_1 == a1) = true := beq_iff_eq.mpr c9
              have c9b1 : (x11_1 != a1) = false := bne_eq_false_iff_eq.mpr c9
              clear c9
              have H' := Aside0.mk H
              clear H
              have p128 : 0 ≤ (x11_1 : Int) := of_decide_eq_true (by first | (with_reducible assumption) | assumption)
              have q128 : x11_1 < (t125.length : Int) := of_decide_eq_true (by first | (with_reducible assumption) | assumption)
              obtain ⟨ad128, e128, hx128_0⟩ := Kd.at_int (Kd.R_reads' HO_9.out).2.2 x11_1 p128 q128
              cases e128
              replace p128 := eq_true p128
              replace q128 := eq_true q128
              go_wp2
              go_roundg k1
              case measure => have := HK1.out; omega
              case rel => exact ⟨(x5_1), (wrap64 (x11_1 + 1)), (by first | rfl | (simp; done) | (simp [*]; done)), (by first | rfl | (simp; done) | (simp [*]; done)), H', ⟨by have := HK1.out; omega⟩, ⟨by (with_reducible repeat (first | apply Kd.R_alloc | apply Kd.R_drewN | apply Kd.R_drew)); exact HO_9.out⟩, ⟨by repeat (first | (with_reducible first | exact HB.out | apply below_alloc | apply pw_below_drewN | apply below_drew1) | exact HB.out)⟩⟩
            · rw [if_neg c9] at H
              have c9b0 : (x11_1 == a1) = false := beq_eq_false_iff_ne.mpr c9
              have c9b1 : (x11_1 != a1) = true := bne_iff_ne.mpr c9
              by_cases c10 : x11_1 < (l0.length : Int)
              · rw [if_pos c10] at H
                have c10b0 : decide (x11_1 < (l0.length : Int)) = true := decide_eq_true c10
                clear c10
                obtain ⟨bq11, hbq11⟩ : ∃ b_ : Bool, b_ = ((rd_T30 l0 x11_1).f0) := ⟨_, rfl⟩
                replace H : (if bq11 = true then (lbts_Lbts.l0 k1 l0 a1 (mn x5_1 (rd t125 x11_1)) t125 (t125.length : Int) (wrap64 (x11_1 + 1))) else (lbts_Lbts.l0 k1 l0 a1 x5_1 t125 (t125.length : Int) (wrap64 (x11_1 + 1)))) = some r := by rw [← hbq11] at H; exact H
                have Nbq11 := Aside0.mk hbq11
                clear hbq11
                by_cases c12 : bq11 = true
                · subst c12
                  have H1 : (lbts_Lbts.l0 k1 l0 a1 (mn x5_1 (rd t125 x11_1)) t125 (t125.length : Int) (wrap64 (x11_1 + 1))) = some r := by rw [if_pos rfl] at H; exact H
                  clear H
                  have H := H1
                  clear H1
                  obtain ⟨ji13, hji13⟩ : ∃ j_ : Int, (mn x5_1 (rd t125 x11_1)) = j_ := ⟨_, rfl⟩
                  replace H : (lbts_Lbts.l0 k1 l0 a1 ji13 t125 (t125.length : Int) (wrap64 (x11_1 + 1))) = some r := by first | (rw [hji13] at H; exact H) | (simp only [hji13] at H ⊢; exact H)
                  have hji13_ : (if (rd t125 x11_1) < x5_1 then (rd t125 x11_1) else x5_1) = ji13 := hji13
                  have H' := Aside0.mk H
                  clear H
                  have p128 : 0 ≤ (x11_1 : Int) := of_decide_eq_true (by first | (with_reducible assumption) | assumption)
                  have q128 : x11_1 < (t125.length : Int) := of_decide_eq_true (by first | (with_reducible assumption) | assumption)
                  obtain ⟨ad128, e128, hx128_0⟩ := Kd.at_int (Kd.R_reads' HO_9.out).2.2 x11_1 p128 q128
                  cases e128
                  replace p128 := eq_true p128
                  replace q128 := eq_true q128
                  have p129 : 0 ≤ (x11_1 : Int) := of_decide_eq_true (by first | (with_reducible assumption) | assumption)
                  have q129 : x11_1 < (l0.length : Int) := of_decide_eq_true (by first | (with_reducible assumption) | assumption)
                  obtain ⟨ad129, e129, hx129_0, hx129_1, hx129_2, hx129_3, hx129_4, hx129_5, hx129_6⟩ := at_T30 HR0.out x11_1 p129 q129
                  (try rw [← Nbq11.out] at hx129_0)
                  (try rw [← Nbq11.out] at hx129_1)
                  cases e129
                  replace hx129_0 := (HB.out.cell (World.block_lt_of_cell? w _ hx129_0)).trans hx129_0
                  replace hx129_1 := (HB.out.cell (World.block_lt_of_cell? w _ hx129_1)).trans hx129_1
                  replace hx129_2 := (HB.out.cell (World.block_lt_of_cell? w _ hx129_2)).trans hx129_2
                  replace hx129_3 := (HB.out.cell (World.block_lt_of_cell? w _ hx129_3)).trans hx129_3
                  replace hx129_4 := (HB.out.cell (World.block_lt_of_cell? w _ hx129_4)).trans hx129_4
                  replace hx129_5 := (HB.out.cell (World.block_lt_of_cell? w _ hx129_5)).trans hx129_5
                  replace hx129_6 := (HB.out.cell (World.block_lt_of_cell? w _ hx129_6)).trans hx129_6
                  replace p129 := eq_true p129
                  replace q129 := eq_true q129
                  go_wp2
                  go_roundg k1
                  case measure => have := HK1.out; omega
                  case rel => exact ⟨(ji13), (wrap64 (x11_1 + 1)), (by first | rfl | (simp; done) | (simp only [← hji13] <;> (first | rfl | simp)) | (simp [*]; done)), (by first | rfl | (simp; done) | (simp [*]; done)), H', ⟨by have := HK1.out; omega⟩, ⟨by (with_reducible repeat (first | apply Kd.R_alloc | apply Kd.R_drewN | apply Kd.R_drew)); exact HO_9.out⟩, ⟨by repeat (first | (with_reducible first | exact HB.out | apply below_alloc | apply pw_below_drewN | apply below_drew1) | exact HB.out)⟩⟩
                · replace c12 := Bool.eq_false_iff.mpr c12
                  subst c12
                  have H1 : (lbts_Lbts.l0 k1 l0 a1 x5_1 t125 (t125.length : Int) (wrap64 (x11_1 + 1))) = some r := by rw [if_neg (show ¬ (false = true) by decide)] at H; exact H
                  clear H
                  have H := H1
                  clear H1
                  have H' := Aside0.mk H
                  clear H
                  have p128 : 0 ≤ (x11_1 : Int) := of_decide_eq_true (by first | (with_reducible assumption) | assumption)
                  have q128 : x11_1 < (t125.length : Int) := of_decide_eq_true (by first | (with_reducible assumption) | assumption)
                  obtain ⟨ad128, e128, hx128_0⟩ := Kd.at_int (Kd.R_reads' HO_9.out).2.2 x11_1 p128 q128
                  cases e128
                  replace p128 := eq_true p128
                  replace q128 := eq_true q128
                  have p129 : 0 ≤ (x11_1 : Int) := of_decide_eq_true (by first | (with_reducible assumption) | assumption)
                  have q129 : x11_1 < (l0.length : Int) := of_decide_eq_true (by first | (with_reducible assumption) | assumption)
                  obtain ⟨ad129, e129, hx129_0, hx129_1, hx129_2, hx129_3, hx129_4, hx129_5, hx129_6⟩ := at_T30 HR0.out x11_1 p129 q129
                  (try rw [← Nbq11.out] at hx129_0)
                  (try rw [← Nbq11.out] at hx129_1)
                  cases e129
                  replace hx129_0 := (HB.out.cell (World.block_lt_of_cell? w _ hx129_0)).trans hx129_0
                  replace hx129_1 := (HB.out.cell (World.block_lt_of_cell? w _ hx129_1)).trans hx129_1
                  replace hx129_2 := (HB.out.cell (World.block_lt_of_cell? w _ hx129_2)).trans hx129_2
                  replace hx129_3 := (HB.out.cell (World.block_lt_of_cell? w _ hx129_3)).trans hx129_3
                  replace hx129_4 := (HB.out.cell (World.block_lt_of_cell? w _ hx129_4)).trans hx129_4
                  replace hx129_5 := (HB.out.cell (World.block_lt_of_cell? w _ hx129_5)).trans hx129_5
                  replace hx129_6 := (HB.out.cell (World.block_lt_of_cell? w _ hx129_6)).trans hx129_6
                  replace p129 := eq_true p129
                  replace q129 := eq_true q129
                  go_wp2
                  go_roundg k1
                  case measure => have := HK1.out; omega
                  case rel => exact ⟨(x5_1), (wrap64 (x11_1 + 1)), (by first | rfl | (simp; done) | (simp [*]; done)), (by first | rfl | (simp; done) | (simp [*]; done)), H', ⟨by have := HK1.out; omega⟩, ⟨by (with_reducible repeat (first | apply Kd.R_alloc | apply Kd.R_drewN | apply Kd.R_drew)); exact HO_9.out⟩, ⟨by repeat (first | (with_reducible first | exact HB.out | apply below_alloc | apply pw_below_drewN | apply below_drew1) | exact HB.out)⟩⟩
              · rw [if_neg c10] at H
                exact absurd H (by simp)
          · rw [if_neg c8] at H
            exact absurd H (by simp)
        · rw [if_neg c7] at H
          exact absurd H (by simp)
      · rw [if_neg c6] at H
        have c6b0 : decide (x11_1 < (t125.length : Int)) = false := decide_eq_false c6
        clear c6
        obtain rfl := Option.some.inj H
        go_wp2
        go_ret
        exact ⟨by first | rfl | (simp [errW_none, errW_some] <;> rfl) | (simp [*, errW_none, errW_some] <;> rfl), by repeat (first | (with_reducible first | exact HB.out | apply below_alloc | apply pw_below_drewN | apply below_drew1) | exact HB.out)⟩

/-! ### pacelineref18_others: function 22 -/
def pacelineref18_others.l0 : Nat → List (S50) → List Int → Int → Int → Int → Option (Int)
  | 0, _, _, _, _, _ => none
  | k + 1, x0, x1, x2, x7, x8 => if x8 < (x0.length : Int) then (if x8 = x2 then (pacelineref18_others.l0 k x0 x1 x2 x7 (wrap64 (x8 + 1))) else (if 0 ≤ x8 then (if (rd_T50 x0 x8).f0 = true then (if x8 < (x1.length : Int) then (pacelineref18_others.l0 k x0 x1 x2 (mn x7 (rd x1 x8)) (wrap64 (x8 + 1))) else (none)) else (pacelineref18_others.l0 k x0 x1 x2 x7 (wrap64 (x8 + 1)))) else (none))) else (some x7)
def pacelineref18_others.f (k : Nat) (l0 : List (S50)) (l1 : List Int) (a2 : Int) : Option (Int) := pacelineref18_others.l0 k l0 l1 a2 1125899906842624 0
theorem pacelineref18_others.mono_l : ∀ k, (∀ y0 y1 y2 y3 y4, LeO (pacelineref18_others.l0 k y0 y1 y2 y3 y4) (pacelineref18_others.l0 (k + 1) y0 y1 y2 y3 y4))
  | 0 => fun _ _ _ _ _ r h => by simp [pacelineref18_others.l0] at h
  | k + 1 => by
    have ih0 := pacelineref18_others.mono_l k
    · intro y0 y1 y2 y3 y4
      unfold pacelineref18_others.l0
      repeat' first
      | (with_reducible exact ih0 _ _ _ _ _)
      | (with_reducible exact LeO.refl _)
      | (with_reducible exact LeO.none _)
      | (with_reducible refine LeO.ite ?_ ?_)
      | (with_reducible refine LeO.bind ?_ (fun _ => ?_))
      | exact ih0 _ _ _ _ _
      | exact LeO.none _
      | refine LeO.ite ?_ ?_
      | refine LeO.bind ?_ (fun _ => ?_)
theorem pacelineref18_others.mono : ∀ a0 a1 a2 k, LeO (pacelineref18_others.f k a0 a1 a2) (pacelineref18_others.f (k + 1) a0 a1 a2) := by
  intro a0 a1 a2 k
  have ih0 := pacelineref18_others.mono_l k
  unfold pacelineref18_others.f
  repeat' first
      | (with_reducible exact ih0 _ _ _ _ _)
      | (with_reducible exact LeO.refl _)
      | (with_reducible exact LeO.none _)
      | (with_reducible refine LeO.ite ?_ ?_)
      | (with_reducible refine LeO.bind ?_ (fun _ => ?_))
      | exact ih0 _ _ _ _ _
      | exact LeO.none _
      | refine LeO.ite ?_ ?_
      | refine LeO.bind ?_ (fun _ => ?_)
set_option maxHeartbeats 8000000 in
set_option maxRecDepth 100000 in
theorem pacelineref18_others.calls (k : Nat) (A0 : Option Addr) (c0 : Nat) (l0 : List (S50)) (A1 : Option Addr) (c1 : Nat) (l1 : List Int) (a2 : Int) (r : Int) (w : World) (hr0 : Kd.C k50 w A0 l0.length l0) (hc0 : l0.length ≤ c0) (hr1 : Kd.C (Kd.int .i64) w A1 l1.length l1) (hc1 : l1.length ≤ c1) (h : pacelineref18_others.f k l0 l1 a2 = some r) :
    Calls Try.prog 22 #[.slice A0 l0.length c0, .slice A1 l1.length c1, .int .i64 a2] w fun e w' => e = .returned (.int .i64 r) ∧ Below w.heap.size w w' := by
  have HR0 := Aside0.mk hr0
  have HC0 := Aside0.mk hc0
  clear hr0 hc0
  have HR1 := Aside0.mk hr1
  have HC1 := Aside0.mk hc1
  clear hr1 hc1
  have HB := Aside0.mk (Below.refl w.heap.size w)
  have H : (pacelineref18_others.l0 k l0 l1 a2 1125899906842624 0) = some r := h
  clear h
  have H' := Aside0.mk H
  clear H
  go_enter Try.func22, Try.ntmps22
  go_wp2
  go_loopg [7, 8] k (fun kq v7 v8 w' => ∃ (x7_1 : Int) (x8_1 : Int), v7 = .int .i64 x7_1 ∧ v8 = .int .i64 x8_1 ∧ Aside0 (pacelineref18_others.l0 kq l0 l1 a2 x7_1 x8_1 = some r) ∧ Aside0 (kq ≤ k) ∧ Aside0 (Below w.heap.size w w'))
  case atStart => exact ⟨(1125899906842624), (0), (by first | rfl | (simp; done) | (simp [*]; done)), (by first | rfl | (simp; done) | (simp [*]; done)), H', ⟨Nat.le_refl _⟩, ⟨by repeat (first | (with_reducible first | exact HB.out | apply below_alloc | apply pw_below_drewN | apply below_drew1) | exact HB.out)⟩⟩
  case round =>
    clear H'
    try clear c1
    try clear c2
    try clear p2
    obtain ⟨x7_1, x8_1, rfl, rfl, HA, HK1, HB⟩ := hrel
    cases gk with
    | zero => exact absurd HA.out (by simp [pacelineref18_others.l0])
    | succ k1 =>
      have H := HA.out
      clear HA
      simp only [pacelineref18_others.l0] at H
      by_cases c4 : x8_1 < (l0.length : Int)
      · rw [if_pos c4] at H
        have c4b0 : decide (x8_1 < (l0.length : Int)) = true := decide_eq_true c4
        clear c4
        by_cases c5 : x8_1 = a2
        · rw [if_pos c5] at H
          have c5b0 : (x8_1 == a2) = true := beq_iff_eq.mpr c5
          have c5b1 : (x8_1 != a2) = false := bne_eq_false_iff_eq.mpr c5
          clear c5
          have H' := Aside0.mk H
          clear H
          go_wp2
          go_roundg k1
          case measure => have := HK1.out; omega
          case rel => exact ⟨(x7_1), (wrap64 (x8_1 + 1)), (by first | rfl | (simp; done) | (simp [*]; done)), (by first | rfl | (simp; done) | (simp [*]; done)), H', ⟨by have := HK1.out; omega⟩, ⟨by repeat (first | (with_reducible first | exact HB.out | apply below_alloc | apply pw_below_drewN | apply below_drew1) | exact HB.out)⟩⟩
        · rw [if_neg c5] at H
          have c5b0 : (x8_1 == a2) = false := beq_eq_false_iff_ne.mpr c5
          have c5b1 : (x8_1 != a2) = true := bne_iff_ne.mpr c5
          by_cases c6 : 0 ≤ x8_1
          · rw [if_pos c6] at H
            have c6b0 : decide (0 ≤ x8_1) = true := decide_eq_true c6
            clear c6
            obtain ⟨bq7, hbq7⟩ : ∃ b_ : Bool, b_ = ((rd_T50 l0 x8_1).f0) := ⟨_, rfl⟩
            replace H : (if bq7 = true then (if x8_1 < (l1.length : Int) then (pacelineref18_others.l0 k1 l0 l1 a2 (mn x7_1 (rd l1 x8_1)) (wrap64 (x8_1 + 1))) else (none)) else (pacelineref18_others.l0 k1 l0 l1 a2 x7_1 (wrap64 (x8_1 + 1)))) = some r := by rw [← hbq7] at H; exact H
            have Nbq7 := Aside0.mk hbq7
            clear hbq7
            by_cases c8 : bq7 = true
            · subst c8
              have H1 : (if x8_1 < (l1.length : Int) then (pacelineref18_others.l0 k1 l0 l1 a2 (mn x7_1 (rd l1 x8_1)) (wrap64 (x8_1 + 1))) else (none)) = some r := by rw [if_pos rfl] at H; exact H
              clear H
              have H := H1
              clear H1
              by_cases c9 : x8_1 < (l1.length : Int)
              · rw [if_pos c9] at H
                have c9b0 : decide (x8_1 < (l1.length : Int)) = true := decide_eq_true c9
                clear c9
                obtain ⟨ji10, hji10⟩ : ∃ j_ : Int, (mn x7_1 (rd l1 x8_1)) = j_ := ⟨_, rfl⟩
                replace H : (pacelineref18_others.l0 k1 l0 l1 a2 ji10 (wrap64 (x8_1 + 1))) = some r := by first | (rw [hji10] at H; exact H) | (simp only [hji10] at H ⊢; exact H)
                have hji10_ : (if (rd l1 x8_1) < x7_1 then (rd l1 x8_1) else x7_1) = ji10 := hji10
                have H' := Aside0.mk H
                clear H
                have p130 : 0 ≤ (x8_1 : Int) := of_decide_eq_true (by first | (with_reducible assumption) | assumption)
                have q130 : x8_1 < (l0.length : Int) := of_decide_eq_true (by first | (with_reducible assumption) | assumption)
                obtain ⟨ad130, e130, hx130_0, hx130_1, hx130_2, hx130_3, hx130_4, hx130_5, hx130_6⟩ := at_T50 HR0.out x8_1 p130 q130
                (try rw [← Nbq7.out] at hx130_0)
                (try rw [← Nbq7.out] at hx130_1)
                cases e130
                replace hx130_0 := (HB.out.cell (World.block_lt_of_cell? w _ hx130_0)).trans hx130_0
                replace hx130_1 := (HB.out.cell (World.block_lt_of_cell? w _ hx130_1)).trans hx130_1
                replace hx130_2 := (HB.out.cell (World.block_lt_of_cell? w _ hx130_2)).trans hx130_2
                replace hx130_3 := (HB.out.cell (World.block_lt_of_cell? w _ hx130_3)).trans hx130_3
                replace hx130_4 := (HB.out.cell (World.block_lt_of_cell? w _ hx130_4)).trans hx130_4
                replace hx130_5 := (HB.out.cell (World.block_lt_of_cell? w _ hx130_5)).trans hx130_5
                replace hx130_6 := (HB.out.cell (World.block_lt_of_cell? w _ hx130_6)).trans hx130_6
                replace p130 := eq_true p130
                replace q130 := eq_true q130
                have p131 : 0 ≤ (x8_1 : Int) := of_decide_eq_true (by first | (with_reducible assumption) | assumption)
                have q131 : x8_1 < (l1.length : Int) := of_decide_eq_true (by first | (with_reducible assumption) | assumption)
                obtain ⟨ad131, e131, hx131_0⟩ := Kd.at_int HR1.out x8_1 p131 q131
                cases e131
                replace hx131_0 := (HB.out.cell (World.block_lt_of_cell? w _ hx131_0)).trans hx131_0
                replace p131 := eq_true p131
                replace q131 := eq_true q131
                go_wp2
                go_roundg k1
                case measure => have := HK1.out; omega
                case rel => exact ⟨(ji10), (wrap64 (x8_1 + 1)), (by first | rfl | (simp; done) | (simp only [← hji10] <;> (first | rfl | simp)) | (simp [*]; done)), (by first | rfl | (simp; done) | (simp [*]; done)), H', ⟨by have := HK1.out; omega⟩, ⟨by repeat (first | (with_reducible first | exact HB.out | apply below_alloc | apply pw_below_drewN | apply below_drew1) | exact HB.out)⟩⟩
              · rw [if_neg c9] at H
                exact absurd H (by simp)
            · replace c8 := Bool.eq_false_iff.mpr c8
              subst c8
              have H1 : (pacelineref18_others.l0 k1 l0 l1 a2 x7_1 (wrap64 (x8_1 + 1))) = some r := by rw [if_neg (show ¬ (false = true) by decide)] at H; exact H
              clear H
              have H := H1
              clear H1
              have H' := Aside0.mk H
              clear H
              have p130 : 0 ≤ (x8_1 : Int) := of_decide_eq_true (by first | (with_reducible assumption) | assumption)
              have q130 : x8_1 < (l0.length : Int) := of_decide_eq_true (by first | (with_reducible assumption) | assumption)
              obtain ⟨ad130, e130, hx130_0, hx130_1, hx130_2, hx130_3, hx130_4, hx130_5, hx130_6⟩ := at_T50 HR0.out x8_1 p130 q130
              (try rw [← Nbq7.out] at hx130_0)
              (try rw [← Nbq7.out] at hx130_1)
              cases e130
              replace hx130_0 := (HB.out.cell (World.block_lt_of_cell? w _ hx130_0)).trans hx130_0
              replace hx130_1 := (HB.out.cell (World.block_lt_of_cell? w _ hx130_1)).trans hx130_1
              replace hx130_2 := (HB.out.cell (World.block_lt_of_cell? w _ hx130_2)).trans hx130_2
              replace hx130_3 := (HB.out.cell (World.block_lt_of_cell? w _ hx130_3)).trans hx130_3
              replace hx130_4 := (HB.out.cell (World.block_lt_of_cell? w _ hx130_4)).trans hx130_4
              replace hx130_5 := (HB.out.cell (World.block_lt_of_cell? w _ hx130_5)).trans hx130_5
              replace hx130_6 := (HB.out.cell (World.block_lt_of_cell? w _ hx130_6)).trans hx130_6
              replace p130 := eq_true p130
              replace q130 := eq_true q130
              go_wp2
              go_roundg k1
              case measure => have := HK1.out; omega
              case rel => exact ⟨(x7_1), (wrap64 (x8_1 + 1)), (by first | rfl | (simp; done) | (simp [*]; done)), (by first | rfl | (simp; done) | (simp [*]; done)), H', ⟨by have := HK1.out; omega⟩, ⟨by repeat (first | (with_reducible first | exact HB.out | apply below_alloc | apply pw_below_drewN | apply below_drew1) | exact HB.out)⟩⟩
          · rw [if_neg c6] at H
            exact absurd H (by simp)
      · rw [if_neg c4] at H
        have c4b0 : decide (x8_1 < (l0.length : Int)) = false := decide_eq_false c4
        clear c4
        obtain rfl := Option.some.inj H
        go_wp2
        go_ret
        exact ⟨by first | rfl | (simp [errW_none, errW_some] <;> rfl) | (simp [*, errW_none, errW_some] <;> rfl), by repeat (first | (with_reducible first | exact HB.out | apply below_alloc | apply pw_below_drewN | apply below_drew1) | exact HB.out)⟩

/-! ### pacelineref18_time: function 24 -/
def pacelineref18_time.f (a0 : Int) : Option (Int) := (pacelineref01_Add.f a0 0).bind fun t132 => (some t132)
set_option maxHeartbeats 8000000 in
set_option maxRecDepth 100000 in
theorem pacelineref18_time.calls (a0 : Int) (r : Int) (w : World) (h : pacelineref18_time.f a0 = some r) :
    Calls Try.prog 24 #[.int .i64 a0] w fun e w' => e = .returned (.int .i64 r) ∧ Drawn0 w w' := by
  have H : ((pacelineref01_Add.f a0 0).bind fun t132 => (some t132)) = some r := h
  clear h
  replace H := Option.bind_eq_some_iff.mp H
  obtain ⟨t132, A20, H⟩ := H
  replace H : (some t132) = some r := H
  have A2 := Aside0.mk A20
  clear A20
  obtain rfl := Option.some.inj H
  go_enter Try.func24, Try.ntmps24
  go_wp2_with (first | ((with_reducible refine gate_callee (f := 12) rfl ?_); refine goesL_ (some 4) rfl rfl Try.func12 (by kernel_rfl) rfl #[.int .i64 a0, .int .i64 0] rfl (by (try simp only [List.map_toArray, List.map_cons, List.map_nil]); first | done | rfl | (simp only [List.length_drop, List.length_take]; rfl)) ?_; (with_reducible refine (pacelineref01_Add.calls a0 0 t132 _ A2.out).mono ?_); rintro e w' ⟨rfl, ⟨nd, rfl⟩⟩; refine ⟨_, rfl, ?_⟩))
  go_ret
  exact ⟨by first | rfl | (simp; done) | (simp [*]; done), by repeat (first | exact Drawn0.refl _ | apply Drawn0.step)⟩

end Go.Proofs.Yteomcpdfbaglaaa.PLbtsLater
