-- Written by gp.py (this project's driver over the kit's print) out of the translation and wip/given; Lean checks it.
import Derived.Test.YtdlagficilbbbaaPConfigLaterx0
import Derived.Test.YtdlagficilbbbaaPConfigLaterx1
import Derived.Test.YtdlagficilbbbaaPConfigLaterx3
import Derived.Test.YtdlagficilbbbaaPConfigLaterx4
import Derived.Test.YtdlagficilbbbaaPConfigLaterx9
import Derived.Test.YtdlagficilbbbaaPConfigLaterx10
namespace Go.Proofs.Ytdlagficilbbbaa.PConfigLater
open Go.RowKit Go.Proofs.YtdlagficilbbbaaR Go.Proofs.YtdlagficilbbbaaW.PrintWords Go.Proofs.YtdlagficilbbbaaW.PrintLast Go.Proofs.YtdlagficilbbbaaW.PrintMore
attribute [local go_sem] max2_int min2_int max_two min_two max_three min_three max_four min_four   -- for this text's walks alone
set_option linter.unusedVariables false
set_option linter.unusedSimpArgs false

/-! ### pacelineref05_Above: function 32 -/
mutual
def pacelineref05_Above.j0 : Nat → List Int → Int → List Int → Bool → Option (List Int)
  | 0, _, _, _, _ => none
  | k + 1, x0, x1, x5, x19 => if x19 = true then (some x5) else (pacelineref05_Above.l0 k x0 x1 x5)
def pacelineref05_Above.l0 : Nat → List Int → Int → List Int → Option (List Int)
  | 0, _, _, _ => none
  | k + 1, x0, x1, x5 => if x1 ≥ 0 then (if x5.length < 17592186044416 then (if 0 ≤ x1 then (if x1 < (x0.length : Int) then (pacelineref05_Above.l0 k x0 (rd x0 x1) (x5 ++ [x1])) else (none)) else (none)) else (none)) else (some x5)
end
def pacelineref05_Above.f (k : Nat) (l0 : List Int) (a1 : Int) : Option (List Int) := (some (([] : List Int) : List Int)).bind fun y183 => ((pacelineref05_Check.f k l0).bind fun t186 => (if t186 = 0 then (if a1 < 0 then (pacelineref05_Above.j0 k l0 a1 y183 true) else (pacelineref05_Above.j0 k l0 a1 y183 (decide (a1 ≥ (l0.length : Int))))) else (pacelineref05_Above.j0 k l0 a1 y183 true)))
theorem pacelineref05_Above.mono_l : ∀ k, (∀ y0 y1 y2 y3, LeO (pacelineref05_Above.j0 k y0 y1 y2 y3) (pacelineref05_Above.j0 (k + 1) y0 y1 y2 y3)) ∧ (∀ y0 y1 y2, LeO (pacelineref05_Above.l0 k y0 y1 y2) (pacelineref05_Above.l0 (k + 1) y0 y1 y2))
  | 0 => ⟨fun _ _ _ _ r h => by simp [pacelineref05_Above.j0] at h, fun _ _ _ r h => by simp [pacelineref05_Above.l0] at h⟩
  | k + 1 => by
    obtain ⟨ih0, ih1⟩ := pacelineref05_Above.mono_l k
    refine ⟨?_, ?_⟩
    · intro y0 y1 y2 y3
      unfold pacelineref05_Above.j0
      repeat' first
      | (with_reducible exact ih0 _ _ _ _)
      | (with_reducible exact ih1 _ _ _)
      | (with_reducible exact pacelineref05_Check.mono _ _)
      | (with_reducible exact LeO.refl _)
      | (with_reducible exact LeO.none _)
      | (with_reducible refine LeO.ite ?_ ?_)
      | (with_reducible refine LeO.bind ?_ (fun _ => ?_))
      | exact ih0 _ _ _ _
      | exact ih1 _ _ _
      | exact pacelineref05_Check.mono _ _
      | exact LeO.none _
      | refine LeO.ite ?_ ?_
      | refine LeO.bind ?_ (fun _ => ?_)
    · intro y0 y1 y2
      unfold pacelineref05_Above.l0
      repeat' first
      | (with_reducible exact ih0 _ _ _ _)
      | (with_reducible exact ih1 _ _ _)
      | (with_reducible exact pacelineref05_Check.mono _ _)
      | (with_reducible exact LeO.refl _)
      | (with_reducible exact LeO.none _)
      | (with_reducible refine LeO.ite ?_ ?_)
      | (with_reducible refine LeO.bind ?_ (fun _ => ?_))
      | exact ih0 _ _ _ _
      | exact ih1 _ _ _
      | exact pacelineref05_Check.mono _ _
      | exact LeO.none _
      | refine LeO.ite ?_ ?_
      | refine LeO.bind ?_ (fun _ => ?_)
theorem pacelineref05_Above.mono : ∀ a0 a1 k, LeO (pacelineref05_Above.f k a0 a1) (pacelineref05_Above.f (k + 1) a0 a1) := by
  intro a0 a1 k
  obtain ⟨ih0, ih1⟩ := pacelineref05_Above.mono_l k
  unfold pacelineref05_Above.f
  repeat' first
      | (with_reducible exact ih0 _ _ _ _)
      | (with_reducible exact ih1 _ _ _)
      | (with_reducible exact pacelineref05_Check.mono _ _)
      | (with_reducible exact LeO.refl _)
      | (with_reducible exact LeO.none _)
      | (with_reducible refine LeO.ite ?_ ?_)
      | (with_reducible refine LeO.bind ?_ (fun _ => ?_))
      | exact ih0 _ _ _ _
      | exact ih1 _ _ _
      | exact pacelineref05_Check.mono _ _
      | exact LeO.none _
      | refine LeO.ite ?_ ?_
      | refine LeO.bind ?_ (fun _ => ?_)
set_option maxHeartbeats 8000000 in
set_option maxRecDepth 100000 in
theorem pacelineref05_Above.calls (k : Nat) (A0 : Option Addr) (c0 : Nat) (l0 : List Int) (a1 : Int) (r : List Int) (w : World) (hr0 : Kd.C (Kd.int .i64) w A0 l0.length l0) (hc0 : l0.length ≤ c0) (h : pacelineref05_Above.f k l0 a1 = some r) :
    Calls Try.prog 32 #[.slice A0 l0.length c0, .int .i64 a1] w fun e w' => ∃ v0_ : Value, e = .returned (v0_) ∧ Kd.R (Kd.int .i64) 3 w' w.heap.size (fun _ => True) v0_ r ∧ Below w.heap.size w w' := by
  have HR0 := Aside0.mk hr0
  have HC0 := Aside0.mk hc0
  clear hr0 hc0
  have HB := Aside0.mk (Below.refl w.heap.size w)
  have H : ((some (([] : List Int) : List Int)).bind fun y183 => ((pacelineref05_Check.f k l0).bind fun t186 => (if t186 = 0 then (if a1 < 0 then (pacelineref05_Above.j0 k l0 a1 y183 true) else (pacelineref05_Above.j0 k l0 a1 y183 (decide (a1 ≥ (l0.length : Int))))) else (pacelineref05_Above.j0 k l0 a1 y183 true)))) = some r := h
  clear h
  obtain ⟨y183, hy183⟩ : ∃ y_ : List Int, y_ = (([] : List Int)) := ⟨_, rfl⟩
  replace H : ((pacelineref05_Check.f k l0).bind fun t186 => (if t186 = 0 then (if a1 < 0 then (pacelineref05_Above.j0 k l0 a1 y183 true) else (pacelineref05_Above.j0 k l0 a1 y183 (decide (a1 ≥ (l0.length : Int))))) else (pacelineref05_Above.j0 k l0 a1 y183 true))) = some r := by first | (rw [hy183]; with_reducible exact H) | (have H2_ := (Option.bind_some _ _).symm.trans H; rw [hy183]; with_reducible exact H2_) | (have H2_ := (Option.bind_some _ _).symm.trans H; with_reducible exact H2_) | with_reducible exact H | (rw [hy183]; exact H) | exact H
  have Ny183 := Aside0.mk hy183
  clear hy183
  have HC3 := Aside0.mk H
  clear H
  go_enter Try.func32, Try.ntmps32
  go_upto_region 2 with (first | ((with_reducible refine gate_dst (N := 6) rfl ?_); (try (refine gate_guard (by rfl) ?_; dsimp only)); refine Kd.R_lit (Kd.int .i64) _ 3 ?hg (N := 6) ?hd (xs := ([] : List Int)) (inner := []) (ok := fun _ => True) (okp := fun _ => True) ?hr ?hp (fun _ hk => hk) trivial (Below.refl _ _) (Nat.le_refl _) (by simp) ?_; (case hd => rfl); (case hg => rfl); (case hr => first | (go_simp; done) | (go_simp; rfl)); (case hp => exact (Reps.none _ _)); intro v184 w4 ho5 hb hg_ hnew_; clear hg_ hnew_; (first | rw [← Ny183.out] at ho5 | (simp only [Int.reduceToNat] at ho5; rw [← Ny183.out] at ho5)); have n0_ := Aside0.mk (Kd.R_lower ho5 (below_size (by repeat (first | (with_reducible first | exact HB.out | apply below_alloc | apply pw_below_drewN | apply below_drew1) | exact HB.out)))); have n1_ := Aside0.mk (below_step (by repeat (first | (with_reducible first | exact HB.out | apply below_alloc | apply pw_below_drewN | apply below_drew1) | exact HB.out)) hb); clear HB; have HO185 := n0_; have HB := n1_; clear n0_ n1_; clear hb ho5))
  (try simp only [Act.put, List.setIfInBounds_toArray, List.set_cons_zero, List.set_cons_succ])
  go_cut [19] (fun v19 wc => ∃ (kq : Nat) (x19_2 : Bool), v19 = .bool x19_2 ∧ Aside0 (pacelineref05_Above.j0 kq l0 a1 y183 x19_2 = some r) ∧ Aside0 (kq ≤ k) ∧ Aside0 (Kd.R (Kd.int .i64) 3 wc w.heap.size (fun _ => True) v184 y183) ∧ Aside0 (Below w.heap.size w wc))
  case first =>
    have H := HC3.out
    clear HC3
    replace H := Option.bind_eq_some_iff.mp H
    obtain ⟨t186, A60, H⟩ := H
    replace H : (if t186 = 0 then (if a1 < 0 then (pacelineref05_Above.j0 k l0 a1 y183 true) else (pacelineref05_Above.j0 k l0 a1 y183 (decide (a1 ≥ (l0.length : Int))))) else (pacelineref05_Above.j0 k l0 a1 y183 true)) = some r := H
    have A6 := Aside0.mk A60
    clear A60
    by_cases c7 : t186 = 0
    · rw [if_pos c7] at H
      have c7b0 : (t186 == 0) = true := beq_iff_eq.mpr c7
      have c7b1 : (t186 != 0) = false := bne_eq_false_iff_eq.mpr c7
      clear c7
      (first | rw [c7b0] | (simp only [i64_w, i32_w]; rw [c7b0]) | skip)
      by_cases c8 : a1 < 0
      · rw [if_pos c8] at H
        have c8b0 : decide (a1 < 0) = true := decide_eq_true c8
        clear c8
        have H' := Aside0.mk H
        clear H
        go_wp2_with (first | ((with_reducible refine gate_callee (f := 27) rfl ?_); refine goesL_ (some 8) rfl rfl Try.func27 (by kernel_rfl) rfl #[.slice A0 l0.length c0] rfl (by (try simp only [List.map_toArray, List.map_cons, List.map_nil]); first | done | rfl | (simp only [List.length_drop, List.length_take]; rfl)) ?_; (with_reducible refine (pacelineref05_Check.calls k _ _ l0 t186 _ ?side1 ?side2 A6.out).mono ?_); (case side1 => repeat (first | exact (Kd.C_below HR0.out HB.out) | (with_reducible refine Kd.C_alloc ?_ _) | (with_reducible refine Kd.C_drewN ?_ _) | (with_reducible refine Kd.C_drew ?_))); (case side2 => exact HC0.out); rintro e w' ⟨rfl, ⟨nd, rfl⟩⟩; refine ⟨_, rfl, ?_⟩))
        go_meet
        case rel => exact ⟨_, (true), (by first | rfl | (simp; done) | (simp [*]; done)), H', ⟨by first | omega | exact Nat.le_refl _⟩, ⟨by (with_reducible repeat (first | apply Kd.R_alloc | apply Kd.R_drewN | apply Kd.R_drew)); exact HO185.out⟩, ⟨by repeat (first | (with_reducible first | exact HB.out | apply below_alloc | apply pw_below_drewN | apply below_drew1) | exact HB.out)⟩⟩
      · rw [if_neg c8] at H
        have c8b0 : decide (a1 < 0) = false := decide_eq_false c8
        clear c8
        have H' := Aside0.mk H
        clear H
        go_wp2_with (first | ((with_reducible refine gate_callee (f := 27) rfl ?_); refine goesL_ (some 8) rfl rfl Try.func27 (by kernel_rfl) rfl #[.slice A0 l0.length c0] rfl (by (try simp only [List.map_toArray, List.map_cons, List.map_nil]); first | done | rfl | (simp only [List.length_drop, List.length_take]; rfl)) ?_; (with_reducible refine (pacelineref05_Check.calls k _ _ l0 t186 _ ?side1 ?side2 A6.out).mono ?_); (case side1 => repeat (first | exact (Kd.C_below HR0.out HB.out) | (with_reducible refine Kd.C_alloc ?_ _) | (with_reducible refine Kd.C_drewN ?_ _) | (with_reducible refine Kd.C_drew ?_))); (case side2 => exact HC0.out); rintro e w' ⟨rfl, ⟨nd, rfl⟩⟩; refine ⟨_, rfl, ?_⟩))
        go_meet
        case rel => exact ⟨_, (decide (a1 ≥ (l0.length : Int))), (by first | rfl | (simp; done) | (simp [*]; done)), H', ⟨by first | omega | exact Nat.le_refl _⟩, ⟨by (with_reducible repeat (first | apply Kd.R_alloc | apply Kd.R_drewN | apply Kd.R_drew)); exact HO185.out⟩, ⟨by repeat (first | (with_reducible first | exact HB.out | apply below_alloc | apply pw_below_drewN | apply below_drew1) | exact HB.out)⟩⟩
    · rw [if_neg c7] at H
      have c7b0 : (t186 == 0) = false := beq_eq_false_iff_ne.mpr c7
      have c7b1 : (t186 != 0) = true := bne_iff_ne.mpr c7
      (first | rw [c7b0] | (simp only [i64_w, i32_w]; rw [c7b0]) | skip)
      have H' := Aside0.mk H
      clear H
      go_wp2_with (first | ((with_reducible refine gate_callee (f := 27) rfl ?_); refine goesL_ (some 8) rfl rfl Try.func27 (by kernel_rfl) rfl #[.slice A0 l0.length c0] rfl (by (try simp only [List.map_toArray, List.map_cons, List.map_nil]); first | done | rfl | (simp only [List.length_drop, List.length_take]; rfl)) ?_; (with_reducible refine (pacelineref05_Check.calls k _ _ l0 t186 _ ?side1 ?side2 A6.out).mono ?_); (case side1 => repeat (first | exact (Kd.C_below HR0.out HB.out) | (with_reducible refine Kd.C_alloc ?_ _) | (with_reducible refine Kd.C_drewN ?_ _) | (with_reducible refine Kd.C_drew ?_))); (case side2 => exact HC0.out); rintro e w' ⟨rfl, ⟨nd, rfl⟩⟩; refine ⟨_, rfl, ?_⟩))
      go_meet
      case rel => exact ⟨_, (true), (by first | rfl | (simp; done) | (simp [*]; done)), H', ⟨by first | omega | exact Nat.le_refl _⟩, ⟨by (with_reducible repeat (first | apply Kd.R_alloc | apply Kd.R_drewN | apply Kd.R_drew)); exact HO185.out⟩, ⟨by repeat (first | (with_reducible first | exact HB.out | apply below_alloc | apply pw_below_drewN | apply below_drew1) | exact HB.out)⟩⟩
  case rest =>
    clear HC3
    try clear c2
    try clear p2
    try clear c3
    try clear c7
    try clear c7b0
    try clear c7b1
    try clear c8
    try clear c8b0
    obtain ⟨kq, x19_2, rfl, HA, HJ2, HO_5, HB⟩ := hcut
    cases kq with
    | zero => exact absurd HA.out (by simp [pacelineref05_Above.j0])
    | succ kj2 =>
      have H := HA.out
      clear HA
      simp only [pacelineref05_Above.j0] at H
      by_cases c9 : x19_2 = true
      · subst c9
        have H1 : (some y183) = some r := by rw [if_pos rfl] at H; exact H
        clear H
        have H := H1
        clear H1
        obtain rfl := Option.some.inj H
        go_wp2
        go_ret
        exact ⟨_, by first | rfl | (simp [errW_none, errW_some] <;> rfl) | (simp [*, errW_none, errW_some] <;> rfl), by (with_reducible repeat (first | apply Kd.R_alloc | apply Kd.R_drewN | apply Kd.R_drew)); exact HO_5.out, by repeat (first | (with_reducible first | exact HB.out | apply below_alloc | apply pw_below_drewN | apply below_drew1) | exact HB.out)⟩
      · replace c9 := Bool.eq_false_iff.mpr c9
        subst c9
        have H1 : (pacelineref05_Above.l0 kj2 l0 a1 y183) = some r := by rw [if_neg (show ¬ (false = true) by decide)] at H; exact H
        clear H
        have H := H1
        clear H1
        have H' := Aside0.mk H
        clear H
        go_wp2
        go_loopg [1, 5] kj2 (fun kq v1 v5 w' => ∃ (x1_2 : Int) (x5_2 : List Int), v1 = .int .i64 x1_2 ∧ Aside0 (pacelineref05_Above.l0 kq l0 x1_2 x5_2 = some r) ∧ Aside0 (kq ≤ kj2) ∧ Aside0 (Kd.R (Kd.int .i64) 3 w' w.heap.size (fun _ => True) v5 x5_2) ∧ Aside0 (Below w.heap.size w w'))
        case atStart => exact ⟨(a1), (y183), (by first | rfl | (simp; done) | (simp [*]; done)), H', ⟨Nat.le_refl _⟩, ⟨by (with_reducible repeat (first | apply Kd.R_alloc | apply Kd.R_drewN | apply Kd.R_drew)); exact HO_5.out⟩, ⟨by repeat (first | (with_reducible first | exact HB.out | apply below_alloc | apply pw_below_drewN | apply below_drew1) | exact HB.out)⟩⟩
        case round =>
          clear H'
          try clear c2
          try clear p2
          try clear c3
          try clear c7
          try clear c7b0
          try clear c7b1
          try clear c8
          try clear c8b0
          try clear c9
          try clear p2
          obtain ⟨x1_2, x5_2, rfl, HA, HK2, HO_5, HB⟩ := hrel
          cases gk with
          | zero => exact absurd HA.out (by simp [pacelineref05_Above.l0])
          | succ k2 =>
            have H := HA.out
            clear HA
            simp only [pacelineref05_Above.l0] at H
            by_cases c10 : x1_2 ≥ 0
            · rw [if_pos c10] at H
              have c10b0 : decide (0 ≤ x1_2) = true := decide_eq_true c10
              clear c10
              by_cases c11 : x5_2.length < 17592186044416
              · rw [if_pos c11] at H
                have LMc11 := Aside0.mk c11
                clear c11
                obtain ⟨y187, hy187⟩ : ∃ y_ : List Int, y_ = (x5_2 ++ [x1_2]) := ⟨_, rfl⟩
                replace H : (if 0 ≤ x1_2 then (if x1_2 < (l0.length : Int) then (pacelineref05_Above.l0 k2 l0 (rd l0 x1_2) y187) else (none)) else (none)) = some r := by first | (rw [hy187]; with_reducible exact H) | (have H2_ := (Option.bind_some _ _).symm.trans H; rw [hy187]; with_reducible exact H2_) | (have H2_ := (Option.bind_some _ _).symm.trans H; with_reducible exact H2_) | with_reducible exact H | (rw [hy187]; exact H) | exact H
                have Ny187 := Aside0.mk hy187
                clear hy187
                by_cases c12 : 0 ≤ x1_2
                · rw [if_pos c12] at H
                  have c12b0 : decide (0 ≤ x1_2) = true := decide_eq_true c12
                  clear c12
                  by_cases c13 : x1_2 < (l0.length : Int)
                  · rw [if_pos c13] at H
                    have c13b0 : decide (x1_2 < (l0.length : Int)) = true := decide_eq_true c13
                    clear c13
                    have H' := Aside0.mk H
                    clear H
                    go_wp2_with (first | ((with_reducible refine gate_builtin (b := .append) (xs := #[.tmp 23, .tmp 25]) rfl ?_); (try (refine gate_guard (by rfl) ?_; dsimp only)); at_builtin; refine Kd.R_append (Kd.int .i64) (w0 := w) w.heap.size rfl (.tmp 23) (.tmp 25) 22 3 (.int .i64 0) 8 rfl Try.underlying22 info3 rfl (by decide) (by omega) u5 x5_2 x1_2 [.int .i64 x1_2] (fun _ => True) (fun _ => False) rfl rfl ?aP (fun _ hk => hk.elim) ?aF ?aO ?aB ?aS ?aL ?_; (case aP => exact rfl); (case aB => exact (by repeat (first | (with_reducible first | exact HB.out | apply below_alloc | apply pw_below_drewN | apply below_drew1) | exact HB.out))); (case aF => exact (fun _ _ => trivial)); (case aO => exact (by (with_reducible repeat (first | apply Kd.R_alloc | apply Kd.R_drewN | apply Kd.R_drew)); exact HO_5.out)); (case aS => exact (below_size (by repeat (first | (with_reducible first | exact HB.out | apply below_alloc | apply pw_below_drewN | apply below_drew1) | exact HB.out)))); (case aL => have := LMc11.out; omega); intro v188 w14 ho hb hg hat; rw [← Ny187.out] at ho; have n0_ := Aside0.mk (hb); have n1_ := Aside0.mk (ho); clear HB; clear HO_5; have HB := n0_; have HO189 := n1_; clear n0_ n1_; clear ho hb hg hat; have p190 : 0 ≤ (x1_2 : Int) := of_decide_eq_true (by first | (with_reducible assumption) | assumption); have q190 : x1_2 < (l0.length : Int) := of_decide_eq_true (by first | (with_reducible assumption) | assumption); obtain ⟨ad190, e190, hx190_0⟩ := Kd.at_int HR0.out x1_2 p190 q190; cases e190; replace hx190_0 := (HB.out.cell (World.block_lt_of_cell? w _ hx190_0)).trans hx190_0; replace p190 := eq_true p190; replace q190 := eq_true q190))
                    go_roundg k2
                    case measure => have := HJ2.out; have := HK2.out; omega
                    case rel => exact ⟨(rd l0 x1_2), (y187), (by first | rfl | (simp; done) | (simp [*]; done)), H', ⟨by have := HJ2.out; have := HK2.out; omega⟩, ⟨by (with_reducible repeat (first | apply Kd.R_alloc | apply Kd.R_drewN | apply Kd.R_drew)); exact HO189.out⟩, ⟨by repeat (first | (with_reducible first | exact HB.out | apply below_alloc | apply pw_below_drewN | apply below_drew1) | exact HB.out)⟩⟩
                  · rw [if_neg c13] at H
                    exact absurd H (by simp)
                · rw [if_neg c12] at H
                  exact absurd H (by simp)
              · rw [if_neg c11] at H
                exact absurd H (by simp)
            · rw [if_neg c10] at H
              have c10b0 : decide (0 ≤ x1_2) = false := decide_eq_false c10
              clear c10
              obtain rfl := Option.some.inj H
              go_wp2
              go_ret
              exact ⟨_, by first | rfl | (simp [errW_none, errW_some] <;> rfl) | (simp [*, errW_none, errW_some] <;> rfl), by (with_reducible repeat (first | apply Kd.R_alloc | apply Kd.R_drewN | apply Kd.R_drew)); exact HO_5.out, by repeat (first | (with_reducible first | exact HB.out | apply below_alloc | apply pw_below_drewN | apply below_drew1) | exact HB.out)⟩

/-! ### pacelineref08_Routes: function 14 -/
mutual
def pacelineref08_Routes.l0 : Nat → Int → List Int → List Int → Int → List Int → List (S42) → Int → Option (List Int)
 | 0, _, _, _, _, _, _, _ => none
 | k + 1, x1, x7, x8, x9, x192000, x192001, x192002 => if x9 < (x192001.length : Int) then (pacelineref08_Routes.l1 k x1 x7 x8 x9 false 0 x192000 x192001 x192002) else (some x8)
def pacelineref08_Routes.l1 : Nat → Int → List Int → List Int → Int → Bool → Int → List Int → List (S42) → Int → Option (List Int)
 | 0, _, _, _, _, _, _, _, _, _ => none
 | k + 1, x1, x7, x8, x9, x10, x11, x192000, x192001, x192002 => if x11 < (x7.length : Int) then (if x10 = true then (pacelineref08_Routes.l1 k x1 x7 x8 x9 true (wrap64 (x11 + 1)) x192000 x192001 x192002) else (if 0 ≤ x9 then (if x9 < (x192001.length : Int) then (if 0 ≤ x11 then ((pacelineref05_Has.f k ((rd_T42 x192001 x9).f5) (rd x7 x11)).bind fun t200 => (pacelineref08_Routes.l1 k x1 x7 x8 x9 t200 (wrap64 (x11 + 1)) x192000 x192001 x192002)) else (none)) else (none)) else (none))) else (if x9 = x1 then (pacelineref08_Routes.l0 k x1 x7 x8 (wrap64 (x9 + 1)) x192000 x192001 x192002) else (if x10 = true then (if x8.length < 17592186044416 then (pacelineref08_Routes.l0 k x1 x7 (x8 ++ [x9]) (wrap64 (x9 + 1)) x192000 x192001 x192002) else (none)) else (pacelineref08_Routes.l0 k x1 x7 x8 (wrap64 (x9 + 1)) x192000 x192001 x192002)))
end
def pacelineref08_Routes.f (k : Nat) (l0_0 : List Int) (l0_1 : List (S42)) (a0_2 : Int) (a1 : Int) (a2 : Int) : Option (List Int) := (pacelineref05_Above.f k l0_0 a2).bind fun t192 => (pacelineref08_Routes.l0 k a1 t192 (([] : List Int)) 0 l0_0 l0_1 a0_2)
theorem pacelineref08_Routes.mono_l : ∀ k, (∀ y0 y1 y2 y3 y4 y5 y6, LeO (pacelineref08_Routes.l0 k y0 y1 y2 y3 y4 y5 y6) (pacelineref08_Routes.l0 (k + 1) y0 y1 y2 y3 y4 y5 y6)) ∧ (∀ y0 y1 y2 y3 y4 y5 y6 y7 y8, LeO (pacelineref08_Routes.l1 k y0 y1 y2 y3 y4 y5 y6 y7 y8) (pacelineref08_Routes.l1 (k + 1) y0 y1 y2 y3 y4 y5 y6 y7 y8))
 | 0 => ⟨fun _ _ _ _ _ _ _ r h => by simp [pacelineref08_Routes.l0] at h, fun _ _ _ _ _ _ _ _ _ r h => by simp [pacelineref08_Routes.l1] at h⟩
 | k + 1 => by
  obtain ⟨ih0, ih1⟩ := pacelineref08_Routes.mono_l k
  refine ⟨?_, ?_⟩
  ·intro y0 y1 y2 y3 y4 y5 y6
   unfold pacelineref08_Routes.l0
   repeat' first
   | (with_reducible exact ih0 _ _ _ _ _ _ _)
   | (with_reducible exact ih1 _ _ _ _ _ _ _ _ _)
   | (with_reducible exact pacelineref05_Above.mono _ _ _)
   | (with_reducible exact pacelineref05_Has.mono _ _ _)
   | (with_reducible exact LeO.refl _)
   | (with_reducible exact LeO.none _)
   | (with_reducible refine LeO.ite ?_ ?_)
   | (with_reducible refine LeO.bind ?_ (fun _ => ?_))
   | exact ih0 _ _ _ _ _ _ _
   | exact ih1 _ _ _ _ _ _ _ _ _
   | exact pacelineref05_Above.mono _ _ _
   | exact pacelineref05_Has.mono _ _ _
   | exact LeO.none _
   | refine LeO.ite ?_ ?_
   | refine LeO.bind ?_ (fun _ => ?_)
  ·intro y0 y1 y2 y3 y4 y5 y6 y7 y8
   unfold pacelineref08_Routes.l1
   repeat' first
   | (with_reducible exact ih0 _ _ _ _ _ _ _)
   | (with_reducible exact ih1 _ _ _ _ _ _ _ _ _)
   | (with_reducible exact pacelineref05_Above.mono _ _ _)
   | (with_reducible exact pacelineref05_Has.mono _ _ _)
   | (with_reducible exact LeO.refl _)
   | (with_reducible exact LeO.none _)
   | (with_reducible refine LeO.ite ?_ ?_)
   | (with_reducible refine LeO.bind ?_ (fun _ => ?_))
   | exact ih0 _ _ _ _ _ _ _
   | exact ih1 _ _ _ _ _ _ _ _ _
   | exact pacelineref05_Above.mono _ _ _
   | exact pacelineref05_Has.mono _ _ _
   | exact LeO.none _
   | refine LeO.ite ?_ ?_
   | refine LeO.bind ?_ (fun _ => ?_)
theorem pacelineref08_Routes.mono : ∀ a0 a1 a2 a3 a4 k, LeO (pacelineref08_Routes.f k a0 a1 a2 a3 a4) (pacelineref08_Routes.f (k + 1) a0 a1 a2 a3 a4) := by
 intro a0 a1 a2 a3 a4 k
 obtain ⟨ih0, ih1⟩ := pacelineref08_Routes.mono_l k
 unfold pacelineref08_Routes.f
 repeat' first
   | (with_reducible exact ih0 _ _ _ _ _ _ _)
   | (with_reducible exact ih1 _ _ _ _ _ _ _ _ _)
   | (with_reducible exact pacelineref05_Above.mono _ _ _)
   | (with_reducible exact pacelineref05_Has.mono _ _ _)
   | (with_reducible exact LeO.refl _)
   | (with_reducible exact LeO.none _)
   | (with_reducible refine LeO.ite ?_ ?_)
   | (with_reducible refine LeO.bind ?_ (fun _ => ?_))
   | exact ih0 _ _ _ _ _ _ _
   | exact ih1 _ _ _ _ _ _ _ _ _
   | exact pacelineref05_Above.mono _ _ _
   | exact pacelineref05_Has.mono _ _ _
   | exact LeO.none _
   | refine LeO.ite ?_ ?_
   | refine LeO.bind ?_ (fun _ => ?_)
set_option maxHeartbeats 8000000 in
set_option maxRecDepth 100000 in
theorem pacelineref08_Routes.calls (k : Nat) (A0_0 : Option Addr) (c0_0 : Nat) (l0_0 : List Int) (A0_1 : Option Addr) (c0_1 : Nat) (l0_1 : List (S42)) (a0_2 : Int) (a1 : Int) (a2 : Int) (r : List Int) (w : World) (hr0_0 : Kd.C (Kd.int .i64) w A0_0 l0_0.length l0_0) (hc0_0 : l0_0.length ≤ c0_0) (hr0_1 : Kd.C k42 w A0_1 l0_1.length l0_1) (hc0_1 : l0_1.length ≤ c0_1) (h : pacelineref08_Routes.f k l0_0 l0_1 a0_2 a1 a2 = some r) :
  Calls Try.prog 14 #[.agg #[.slice A0_0 l0_0.length c0_0, .slice A0_1 l0_1.length c0_1, .int .i64 a0_2], .int .i64 a1, .int .i64 a2] w fun e w' => ∃ v0_ : Value, e = .returned (v0_) ∧ Kd.R (Kd.int .i64) 3 w' w.heap.size (fun _ => True) v0_ r ∧ Below w.heap.size w w' := by
 have hu25 := Try.underlying25
 have HR0_0 := Aside0.mk hr0_0
 have HC0_0 := Aside0.mk hc0_0
 clear hr0_0 hc0_0
 have HR0_1 := Aside0.mk hr0_1
 have HC0_1 := Aside0.mk hc0_1
 clear hr0_1 hc0_1
 have HB := Aside0.mk (Below.refl w.heap.size w)
 have H : ((pacelineref05_Above.f k l0_0 a2).bind fun t192 => (pacelineref08_Routes.l0 k a1 t192 (([] : List Int)) 0 l0_0 l0_1 a0_2)) = some r := h
 clear h
 replace H := Option.bind_eq_some_iff.mp H
 obtain ⟨t192, A40, H⟩ := H
 replace H : (pacelineref08_Routes.l0 k a1 t192 (([] : List Int)) 0 l0_0 l0_1 a0_2) = some r := H
 have A4 := Aside0.mk A40
 clear A40
 obtain ⟨y195, hy195⟩ : ∃ y_ : List Int, y_ = (([] : List Int)) := ⟨_, rfl⟩
 replace H : (pacelineref08_Routes.l0 k a1 t192 y195 0 l0_0 l0_1 a0_2) = some r := by first | (rw [hy195]; with_reducible exact H) | (have H2_ := (Option.bind_some _ _).symm.trans H; rw [hy195]; with_reducible exact H2_) | (have H2_ := (Option.bind_some _ _).symm.trans H; with_reducible exact H2_) | with_reducible exact H | (rw [hy195]; exact H) | exact H
 have Ny195 := Aside0.mk hy195
 clear hy195
 have H' := Aside0.mk H
 clear H
 go_enter Try.func14, Try.ntmps14
 go_wp2_with (first | ((with_reducible refine gate_dst (N := 3) rfl ?_); refine box_event ?hg (N := 3) ?hd (cs := #[.slice A0_0 l0_0.length c0_0, .slice A0_1 l0_1.length c0_1, .int .i64 a0_2]) (t := 25) ?hr ?_; (case hd => rfl); (case hg => rfl); (case hr => first | (go_simp; done) | (go_simp; rfl)); intro gb191 hg w5 hbox hb; have n0_ := Aside0.mk (below_step (by repeat (first | (with_reducible first | exact HB.out | apply below_alloc | apply pw_below_drewN | apply below_drew1) | exact HB.out)) hb); have n1_ := Aside0.mk (hbox); have n2_ := Aside0.mk ((by rw [hg]; exact (below_size (by repeat (first | (with_reducible first | exact HB.out | apply below_alloc | apply pw_below_drewN | apply below_drew1) | exact HB.out))) : w.heap.size ≤ gb191)); have n3_ := Aside0.mk ((by rw [hg]; exact (below_size (by repeat (first | (with_reducible first | exact HB.out | apply below_alloc | apply pw_below_drewN | apply below_drew1) | exact HB.out))) : w.heap.size ≤ gb191)); clear HB; have HB := n0_; have BK191 := n1_; have GW191 := n2_; have GE191 := n3_; clear n0_ n1_ n2_ n3_; clear hb hbox hg; have hcz6_0 : w5.cell? ⟨gb191, 0, none⟩ = some (.slice A0_0 l0_0.length c0_0) := (blk_cell BK191.out 0).trans rfl; have hcz6_1 : w5.cell? ⟨gb191, 1, none⟩ = some (.slice A0_1 l0_1.length c0_1) := (blk_cell BK191.out 1).trans rfl; have hcz6_2 : w5.cell? ⟨gb191, 2, none⟩ = some (.int .i64 a0_2) := (blk_cell BK191.out 2).trans rfl; have hfz6_0 := blk_frozen BK191.out 0; have hfz6_1 := blk_frozen BK191.out 1; have hfz6_2 := blk_frozen BK191.out 2) | (go_at_call 32; (with_reducible refine (pacelineref05_Above.calls k _ _ l0_0 a2 t192 _ ?side1 ?side2 A4.out).mono ?_); (case side1 => repeat (first | exact (Kd.C_below HR0_0.out HB.out) | (with_reducible refine Kd.C_alloc ?_ _) | (with_reducible refine Kd.C_drewN ?_ _) | (with_reducible refine Kd.C_drew ?_))); (case side2 => exact HC0_0.out); rintro e w7 ⟨v193, rfl, ho0, hb⟩; have n0_ := Aside0.mk (Kd.R_lower ho0 (below_size (by repeat (first | (with_reducible first | exact HB.out | apply below_alloc | apply pw_below_drewN | apply below_drew1 | refine below_set ?_ GE191.out) | exact HB.out)))); have n1_ := Aside0.mk (blk_below (g := gb191) (o := .cells #[.slice A0_0 l0_0.length c0_0, .slice A0_1 l0_1.length c0_1, .int .i64 a0_2] 25 (0, 0)) (by (with_reducible repeat (first | refine blk_drewN ?_ _ | refine blk_drew ?_ | refine blk_alloc ?_ _)); exact BK191.out) hb); have n2_ := Aside0.mk (below_step (by repeat (first | (with_reducible first | exact HB.out | apply below_alloc | apply pw_below_drewN | apply below_drew1 | refine below_set ?_ GE191.out) | exact HB.out)) hb); clear BK191; clear HB; have HO194 := n0_; have BK191 := n1_; have HB := n2_; clear n0_ n1_ n2_; (try clear hb); (try clear hb2); (try clear hk); (try clear hi); (try clear ho0)) | ((with_reducible refine gate_dst (N := 16) rfl ?_); refine Kd.R_lit (Kd.int .i64) _ 3 ?hg (N := 16) ?hd (xs := ([] : List Int)) (inner := []) (ok := fun _ => True) (okp := fun _ => True) ?hr ?hp (fun _ hk => hk) trivial (Below.refl _ _) (Nat.le_refl _) (by simp) ?_; (case hd => rfl); (case hg => rfl); (case hr => first | (go_simp; done) | (go_simp; rfl)); (case hp => exact (Reps.none _ _)); intro v196 w8 ho9 hb hg_ hnew_; clear hg_ hnew_; (first | rw [← Ny195.out] at ho9 | (simp only [Int.reduceToNat] at ho9; rw [← Ny195.out] at ho9)); have n0_ := Aside0.mk (Kd.R_elder' (by (with_reducible repeat (first | apply Kd.R_alloc | apply Kd.R_drewN | apply Kd.R_drew)); exact HO194.out) (Kd.R_base ho9) hb); have n1_ := Aside0.mk (Kd.R_lower (Kd.R_new' ho9 (Kd.R_lt (by (with_reducible repeat (first | apply Kd.R_alloc | apply Kd.R_drewN | apply Kd.R_drew)); exact HO194.out))) (below_size (by repeat (first | (with_reducible first | exact HB.out | apply below_alloc | apply pw_below_drewN | apply below_drew1 | refine below_set ?_ GE191.out) | exact HB.out)))); have n2_ := Aside0.mk (blk_below (g := gb191) (o := .cells #[.slice A0_0 l0_0.length c0_0, .slice A0_1 l0_1.length c0_1, .int .i64 a0_2] 25 (0, 0)) (by (with_reducible repeat (first | refine blk_drewN ?_ _ | refine blk_drew ?_ | refine blk_alloc ?_ _)); exact BK191.out) hb); have n3_ := Aside0.mk (below_step (by repeat (first | (with_reducible first | exact HB.out | apply below_alloc | apply pw_below_drewN | apply below_drew1 | refine below_set ?_ GE191.out) | exact HB.out)) hb); clear HO194; clear BK191; clear HB; have HO194 := n0_; have HO197 := n1_; have BK191 := n2_; have HB := n3_; clear n0_ n1_ n2_ n3_; clear hb ho9))
 repeat (go_quiet (first | ((with_reducible refine gate_dst (N := 3) rfl ?_); refine box_event ?hg (N := 3) ?hd (cs := #[.slice A0_0 l0_0.length c0_0, .slice A0_1 l0_1.length c0_1, .int .i64 a0_2]) (t := 25) ?hr ?_; (case hd => rfl); (case hg => rfl); (case hr => first | (go_simp; done) | (go_simp; rfl)); intro gb191 hg w5 hbox hb; have n0_ := Aside0.mk (below_step (by repeat (first | (with_reducible first | exact HB.out | apply below_alloc | apply pw_below_drewN | apply below_drew1) | exact HB.out)) hb); have n1_ := Aside0.mk (hbox); have n2_ := Aside0.mk ((by rw [hg]; exact (below_size (by repeat (first | (with_reducible first | exact HB.out | apply below_alloc | apply pw_below_drewN | apply below_drew1) | exact HB.out))) : w.heap.size ≤ gb191)); have n3_ := Aside0.mk ((by rw [hg]; exact (below_size (by repeat (first | (with_reducible first | exact HB.out | apply below_alloc | apply pw_below_drewN | apply below_drew1) | exact HB.out))) : w.heap.size ≤ gb191)); clear HB; have HB := n0_; have BK191 := n1_; have GW191 := n2_; have GE191 := n3_; clear n0_ n1_ n2_ n3_; clear hb hbox hg; have hcz6_0 : w5.cell? ⟨gb191, 0, none⟩ = some (.slice A0_0 l0_0.length c0_0) := (blk_cell BK191.out 0).trans rfl; have hcz6_1 : w5.cell? ⟨gb191, 1, none⟩ = some (.slice A0_1 l0_1.length c0_1) := (blk_cell BK191.out 1).trans rfl; have hcz6_2 : w5.cell? ⟨gb191, 2, none⟩ = some (.int .i64 a0_2) := (blk_cell BK191.out 2).trans rfl; have hfz6_0 := blk_frozen BK191.out 0; have hfz6_1 := blk_frozen BK191.out 1; have hfz6_2 := blk_frozen BK191.out 2) | (go_at_call 32; (with_reducible refine (pacelineref05_Above.calls k _ _ l0_0 a2 t192 _ ?side1 ?side2 A4.out).mono ?_); (case side1 => repeat (first | exact (Kd.C_below HR0_0.out HB.out) | (with_reducible refine Kd.C_alloc ?_ _) | (with_reducible refine Kd.C_drewN ?_ _) | (with_reducible refine Kd.C_drew ?_))); (case side2 => exact HC0_0.out); rintro e w7 ⟨v193, rfl, ho0, hb⟩; have n0_ := Aside0.mk (Kd.R_lower ho0 (below_size (by repeat (first | (with_reducible first | exact HB.out | apply below_alloc | apply pw_below_drewN | apply below_drew1 | refine below_set ?_ GE191.out) | exact HB.out)))); have n1_ := Aside0.mk (blk_below (g := gb191) (o := .cells #[.slice A0_0 l0_0.length c0_0, .slice A0_1 l0_1.length c0_1, .int .i64 a0_2] 25 (0, 0)) (by (with_reducible repeat (first | refine blk_drewN ?_ _ | refine blk_drew ?_ | refine blk_alloc ?_ _)); exact BK191.out) hb); have n2_ := Aside0.mk (below_step (by repeat (first | (with_reducible first | exact HB.out | apply below_alloc | apply pw_below_drewN | apply below_drew1 | refine below_set ?_ GE191.out) | exact HB.out)) hb); clear BK191; clear HB; have HO194 := n0_; have BK191 := n1_; have HB := n2_; clear n0_ n1_ n2_; (try clear hb); (try clear hb2); (try clear hk); (try clear hi); (try clear ho0)) | ((with_reducible refine gate_dst (N := 16) rfl ?_); refine Kd.R_lit (Kd.int .i64) _ 3 ?hg (N := 16) ?hd (xs := ([] : List Int)) (inner := []) (ok := fun _ => True) (okp := fun _ => True) ?hr ?hp (fun _ hk => hk) trivial (Below.refl _ _) (Nat.le_refl _) (by simp) ?_; (case hd => rfl); (case hg => rfl); (case hr => first | (go_simp; done) | (go_simp; rfl)); (case hp => exact (Reps.none _ _)); intro v196 w8 ho9 hb hg_ hnew_; clear hg_ hnew_; (first | rw [← Ny195.out] at ho9 | (simp only [Int.reduceToNat] at ho9; rw [← Ny195.out] at ho9)); have n0_ := Aside0.mk (Kd.R_elder' (by (with_reducible repeat (first | apply Kd.R_alloc | apply Kd.R_drewN | apply Kd.R_drew)); exact HO194.out) (Kd.R_base ho9) hb); have n1_ := Aside0.mk (Kd.R_lower (Kd.R_new' ho9 (Kd.R_lt (by (with_reducible repeat (first | apply Kd.R_alloc | apply Kd.R_drewN | apply Kd.R_drew)); exact HO194.out))) (below_size (by repeat (first | (with_reducible first | exact HB.out | apply below_alloc | apply pw_below_drewN | apply below_drew1 | refine below_set ?_ GE191.out) | exact HB.out)))); have n2_ := Aside0.mk (blk_below (g := gb191) (o := .cells #[.slice A0_0 l0_0.length c0_0, .slice A0_1 l0_1.length c0_1, .int .i64 a0_2] 25 (0, 0)) (by (with_reducible repeat (first | refine blk_drewN ?_ _ | refine blk_drew ?_ | refine blk_alloc ?_ _)); exact BK191.out) hb); have n3_ := Aside0.mk (below_step (by repeat (first | (with_reducible first | exact HB.out | apply below_alloc | apply pw_below_drewN | apply below_drew1 | refine below_set ?_ GE191.out) | exact HB.out)) hb); clear HO194; clear BK191; clear HB; have HO194 := n0_; have HO197 := n1_; have BK191 := n2_; have HB := n3_; clear n0_ n1_ n2_ n3_; clear hb ho9)); try go_wp2_with (first | ((with_reducible refine gate_dst (N := 3) rfl ?_); refine box_event ?hg (N := 3) ?hd (cs := #[.slice A0_0 l0_0.length c0_0, .slice A0_1 l0_1.length c0_1, .int .i64 a0_2]) (t := 25) ?hr ?_; (case hd => rfl); (case hg => rfl); (case hr => first | (go_simp; done) | (go_simp; rfl)); intro gb191 hg w5 hbox hb; have n0_ := Aside0.mk (below_step (by repeat (first | (with_reducible first | exact HB.out | apply below_alloc | apply pw_below_drewN | apply below_drew1) | exact HB.out)) hb); have n1_ := Aside0.mk (hbox); have n2_ := Aside0.mk ((by rw [hg]; exact (below_size (by repeat (first | (with_reducible first | exact HB.out | apply below_alloc | apply pw_below_drewN | apply below_drew1) | exact HB.out))) : w.heap.size ≤ gb191)); have n3_ := Aside0.mk ((by rw [hg]; exact (below_size (by repeat (first | (with_reducible first | exact HB.out | apply below_alloc | apply pw_below_drewN | apply below_drew1) | exact HB.out))) : w.heap.size ≤ gb191)); clear HB; have HB := n0_; have BK191 := n1_; have GW191 := n2_; have GE191 := n3_; clear n0_ n1_ n2_ n3_; clear hb hbox hg; have hcz6_0 : w5.cell? ⟨gb191, 0, none⟩ = some (.slice A0_0 l0_0.length c0_0) := (blk_cell BK191.out 0).trans rfl; have hcz6_1 : w5.cell? ⟨gb191, 1, none⟩ = some (.slice A0_1 l0_1.length c0_1) := (blk_cell BK191.out 1).trans rfl; have hcz6_2 : w5.cell? ⟨gb191, 2, none⟩ = some (.int .i64 a0_2) := (blk_cell BK191.out 2).trans rfl; have hfz6_0 := blk_frozen BK191.out 0; have hfz6_1 := blk_frozen BK191.out 1; have hfz6_2 := blk_frozen BK191.out 2) | (go_at_call 32; (with_reducible refine (pacelineref05_Above.calls k _ _ l0_0 a2 t192 _ ?side1 ?side2 A4.out).mono ?_); (case side1 => repeat (first | exact (Kd.C_below HR0_0.out HB.out) | (with_reducible refine Kd.C_alloc ?_ _) | (with_reducible refine Kd.C_drewN ?_ _) | (with_reducible refine Kd.C_drew ?_))); (case side2 => exact HC0_0.out); rintro e w7 ⟨v193, rfl, ho0, hb⟩; have n0_ := Aside0.mk (Kd.R_lower ho0 (below_size (by repeat (first | (with_reducible first | exact HB.out | apply below_alloc | apply pw_below_drewN | apply below_drew1 | refine below_set ?_ GE191.out) | exact HB.out)))); have n1_ := Aside0.mk (blk_below (g := gb191) (o := .cells #[.slice A0_0 l0_0.length c0_0, .slice A0_1 l0_1.length c0_1, .int .i64 a0_2] 25 (0, 0)) (by (with_reducible repeat (first | refine blk_drewN ?_ _ | refine blk_drew ?_ | refine blk_alloc ?_ _)); exact BK191.out) hb); have n2_ := Aside0.mk (below_step (by repeat (first | (with_reducible first | exact HB.out | apply below_alloc | apply pw_below_drewN | apply below_drew1 | refine below_set ?_ GE191.out) | exact HB.out)) hb); clear BK191; clear HB; have HO194 := n0_; have BK191 := n1_; have HB := n2_; clear n0_ n1_ n2_; (try clear hb); (try clear hb2); (try clear hk); (try clear hi); (try clear ho0)) | ((with_reducible refine gate_dst (N := 16) rfl ?_); refine Kd.R_lit (Kd.int .i64) _ 3 ?hg (N := 16) ?hd (xs := ([] : List Int)) (inner := []) (ok := fun _ => True) (okp := fun _ => True) ?hr ?hp (fun _ hk => hk) trivial (Below.refl _ _) (Nat.le_refl _) (by simp) ?_; (case hd => rfl); (case hg => rfl); (case hr => first | (go_simp; done) | (go_simp; rfl)); (case hp => exact (Reps.none _ _)); intro v196 w8 ho9 hb hg_ hnew_; clear hg_ hnew_; (first | rw [← Ny195.out] at ho9 | (simp only [Int.reduceToNat] at ho9; rw [← Ny195.out] at ho9)); have n0_ := Aside0.mk (Kd.R_elder' (by (with_reducible repeat (first | apply Kd.R_alloc | apply Kd.R_drewN | apply Kd.R_drew)); exact HO194.out) (Kd.R_base ho9) hb); have n1_ := Aside0.mk (Kd.R_lower (Kd.R_new' ho9 (Kd.R_lt (by (with_reducible repeat (first | apply Kd.R_alloc | apply Kd.R_drewN | apply Kd.R_drew)); exact HO194.out))) (below_size (by repeat (first | (with_reducible first | exact HB.out | apply below_alloc | apply pw_below_drewN | apply below_drew1 | refine below_set ?_ GE191.out) | exact HB.out)))); have n2_ := Aside0.mk (blk_below (g := gb191) (o := .cells #[.slice A0_0 l0_0.length c0_0, .slice A0_1 l0_1.length c0_1, .int .i64 a0_2] 25 (0, 0)) (by (with_reducible repeat (first | refine blk_drewN ?_ _ | refine blk_drew ?_ | refine blk_alloc ?_ _)); exact BK191.out) hb); have n3_ := Aside0.mk (below_step (by repeat (first | (with_reducible first | exact HB.out | apply below_alloc | apply pw_below_drewN | apply below_drew1 | refine below_set ?_ GE191.out) | exact HB.out)) hb); clear HO194; clear BK191; clear HB; have HO194 := n0_; have HO197 := n1_; have BK191 := n2_; have HB := n3_; clear n0_ n1_ n2_ n3_; clear hb ho9)))
 go_loopg [8, 9] k (fun kq v8 v9 w' => ∃ (x8_1 : List Int) (x9_1 : Int), v9 = .int .i64 x9_1 ∧ Aside0 (pacelineref08_Routes.l0 kq a1 t192 x8_1 x9_1 l0_0 l0_1 a0_2 = some r) ∧ Aside0 (kq ≤ k) ∧ Aside0 (Kd.R (Kd.int .i64) 3 w' w.heap.size (fun k_ => some k_ ≠ (v8 : Value).ownBlock) v193 t192) ∧ Aside0 (Kd.R (Kd.int .i64) 3 w' w.heap.size (fun k_ => some k_ ≠ (v193 : Value).ownBlock) v8 x8_1) ∧ Aside0 (w'.heap[gb191]? = some (.cells #[(.slice A0_0 l0_0.length c0_0), (.slice A0_1 l0_1.length c0_1), .int .i64 a0_2] 25 (0, 0))) ∧ Aside0 (Below w.heap.size w w'))
 case atStart => exact ⟨(y195), (0), (by first | rfl | (simp; done) | (simp [*]; done)), H', ⟨Nat.le_refl _⟩, ⟨by (with_reducible repeat (first | apply Kd.R_alloc | apply Kd.R_drewN | apply Kd.R_drew)); exact Kd.R_mono HO194.out (fun _ hk => hk.2)⟩, ⟨by (with_reducible repeat (first | apply Kd.R_alloc | apply Kd.R_drewN | apply Kd.R_drew)); exact Kd.R_mono HO197.out (fun _ hk => hk.2)⟩, ⟨by (with_reducible repeat (first | refine blk_drewN ?_ _ | refine blk_drew ?_ | refine blk_alloc ?_ _)); exact BK191.out⟩, ⟨by repeat (first | (with_reducible first | exact HB.out | apply below_alloc | apply pw_below_drewN | apply below_drew1 | refine below_set ?_ GE191.out) | exact HB.out)⟩⟩
 case round =>
  clear H'
  try clear c1
  try clear p2
  try clear hcz6_0
  try clear hcz6_1
  try clear hcz6_2
  try clear hfz6_0
  try clear hfz6_1
  try clear hfz6_2
  obtain ⟨x8_1, x9_1, rfl, HA, HK1, HO_7, HO_8, BK191, HB⟩ := hrel
  cases gk with
  | zero => exact absurd HA.out (by simp [pacelineref08_Routes.l0])
  | succ k1 =>
   have H := HA.out
   clear HA
   simp only [pacelineref08_Routes.l0] at H
   by_cases c10 : x9_1 < (l0_1.length : Int)
   ·rw [if_pos c10] at H
    have c10b0 : decide (x9_1 < (l0_1.length : Int)) = true := decide_eq_true c10
    clear c10
    have H' := Aside0.mk H
    clear H
    have hcz11_0 : wr.cell? ⟨gb191, 0, none⟩ = some (.slice A0_0 l0_0.length c0_0) := (blk_cell BK191.out 0).trans rfl
    have hcz11_1 : wr.cell? ⟨gb191, 1, none⟩ = some (.slice A0_1 l0_1.length c0_1) := (blk_cell BK191.out 1).trans rfl
    have hcz11_2 : wr.cell? ⟨gb191, 2, none⟩ = some (.int .i64 a0_2) := (blk_cell BK191.out 2).trans rfl
    have hfz11_0 := blk_frozen BK191.out 0
    have hfz11_1 := blk_frozen BK191.out 1
    have hfz11_2 := blk_frozen BK191.out 2
    go_wp2
    repeat (go_quiet (fail); try go_wp2)
    go_loopg [10, 11] k1 (fun kq v10 v11 w' => ∃ (x10_2 : Bool) (x11_2 : Int), v10 = .bool x10_2 ∧ v11 = .int .i64 x11_2 ∧ Aside0 (pacelineref08_Routes.l1 kq a1 t192 x8_1 x9_1 x10_2 x11_2 l0_0 l0_1 a0_2 = some r) ∧ Aside0 (kq ≤ k1) ∧ Aside0 (Kd.R (Kd.int .i64) 3 w' w.heap.size (fun k_ => some k_ ≠ (u8 : Value).ownBlock) v193 t192) ∧ Aside0 (Kd.R (Kd.int .i64) 3 w' w.heap.size (fun k_ => some k_ ≠ (v193 : Value).ownBlock) u8 x8_1) ∧ Aside0 (w'.heap[gb191]? = some (.cells #[(.slice A0_0 l0_0.length c0_0), (.slice A0_1 l0_1.length c0_1), .int .i64 a0_2] 25 (0, 0))) ∧ Aside0 (Below w.heap.size w w'))
    case atStart => exact ⟨(false), (0), (by first | rfl | (simp; done) | (simp [*]; done)), (by first | rfl | (simp; done) | (simp [*]; done)), H', ⟨Nat.le_refl _⟩, ⟨by (with_reducible repeat (first | apply Kd.R_alloc | apply Kd.R_drewN | apply Kd.R_drew)); exact HO_7.out⟩, ⟨by (with_reducible repeat (first | apply Kd.R_alloc | apply Kd.R_drewN | apply Kd.R_drew)); exact HO_8.out⟩, ⟨by (with_reducible repeat (first | refine blk_drewN ?_ _ | refine blk_drew ?_ | refine blk_alloc ?_ _)); exact BK191.out⟩, ⟨by repeat (first | (with_reducible first | exact HB.out | apply below_alloc | apply pw_below_drewN | apply below_drew1 | refine below_set ?_ GE191.out) | exact HB.out)⟩⟩
    case round =>
     clear H'
     try clear c1
     try clear p2
     try clear c10
     try clear c10b0
     try clear hcz11_0
     try clear hcz11_1
     try clear hcz11_2
     try clear hcz6_0
     try clear hcz6_1
     try clear hcz6_2
     try clear hfz11_0
     try clear hfz11_1
     try clear hfz11_2
     try clear hfz6_0
     try clear hfz6_1
     try clear hfz6_2
     try clear p2
     obtain ⟨x10_2, x11_2, rfl, rfl, HA, HK2, HO_7, HO_8, BK191, HB⟩ := hrel
     cases gk with
     | zero => exact absurd HA.out (by simp [pacelineref08_Routes.l1])
     | succ k2 =>
      have H := HA.out
      clear HA
      simp only [pacelineref08_Routes.l1] at H
      by_cases c12 : x11_2 < (t192.length : Int)
      ·rw [if_pos c12] at H
       have c12b0 : decide (x11_2 < (t192.length : Int)) = true := decide_eq_true c12
       clear c12
       by_cases c13 : x10_2 = true
       ·subst c13
        have H1 : (pacelineref08_Routes.l1 k2 a1 t192 x8_1 x9_1 true (wrap64 (x11_2 + 1)) l0_0 l0_1 a0_2) = some r := by rw [if_pos rfl] at H; exact H
        clear H
        have H := H1
        clear H1
        have H' := Aside0.mk H
        clear H
        obtain ⟨Ao14, co14, eo14⟩ := Kd.R_slice HO_7.out
        subst eo14
        go_wp2
        repeat (go_quiet (fail); try go_wp2)
        go_roundg k2
        case measure => have := HK1.out; have := HK2.out; omega
        case rel => exact ⟨(true), (wrap64 (x11_2 + 1)), (by first | rfl | (simp; done) | (simp [*]; done)), (by first | rfl | (simp; done) | (simp [*]; done)), H', ⟨by have := HK1.out; have := HK2.out; omega⟩, ⟨by (with_reducible repeat (first | apply Kd.R_alloc | apply Kd.R_drewN | apply Kd.R_drew)); exact HO_7.out⟩, ⟨by (with_reducible repeat (first | apply Kd.R_alloc | apply Kd.R_drewN | apply Kd.R_drew)); exact HO_8.out⟩, ⟨by (with_reducible repeat (first | refine blk_drewN ?_ _ | refine blk_drew ?_ | refine blk_alloc ?_ _)); exact BK191.out⟩, ⟨by repeat (first | (with_reducible first | exact HB.out | apply below_alloc | apply pw_below_drewN | apply below_drew1 | refine below_set ?_ GE191.out) | exact HB.out)⟩⟩
       ·replace c13 := Bool.eq_false_iff.mpr c13
        subst c13
        have H1 : (if 0 ≤ x9_1 then (if x9_1 < (l0_1.length : Int) then (if 0 ≤ x11_2 then ((pacelineref05_Has.f k2 ((rd_T42 l0_1 x9_1).f5) (rd t192 x11_2)).bind fun t200 => (pacelineref08_Routes.l1 k2 a1 t192 x8_1 x9_1 t200 (wrap64 (x11_2 + 1)) l0_0 l0_1 a0_2)) else (none)) else (none)) else (none)) = some r := by rw [if_neg (show ¬ (false = true) by decide)] at H; exact H
        clear H
        have H := H1
        clear H1
        by_cases c15 : 0 ≤ x9_1
        ·rw [if_pos c15] at H
         have c15b0 : decide (0 ≤ x9_1) = true := decide_eq_true c15
         clear c15
         by_cases c16 : x9_1 < (l0_1.length : Int)
         ·rw [if_pos c16] at H
          have c16b0 : decide (x9_1 < (l0_1.length : Int)) = true := decide_eq_true c16
          clear c16
          by_cases c17 : 0 ≤ x11_2
          ·rw [if_pos c17] at H
           have c17b0 : decide (0 ≤ x11_2) = true := decide_eq_true c17
           clear c17
           replace H := Option.bind_eq_some_iff.mp H
           obtain ⟨t200, A180, H⟩ := H
           replace H : (pacelineref08_Routes.l1 k2 a1 t192 x8_1 x9_1 t200 (wrap64 (x11_2 + 1)) l0_0 l0_1 a0_2) = some r := H
           have A18 := Aside0.mk A180
           clear A180
           have H' := Aside0.mk H
           clear H
           obtain ⟨Ao19, co19, eo19⟩ := Kd.R_slice HO_7.out
           subst eo19
           have hcz20_0 : wr.cell? ⟨gb191, 0, none⟩ = some (.slice A0_0 l0_0.length c0_0) := (blk_cell BK191.out 0).trans rfl
           have hcz20_1 : wr.cell? ⟨gb191, 1, none⟩ = some (.slice A0_1 l0_1.length c0_1) := (blk_cell BK191.out 1).trans rfl
           have hcz20_2 : wr.cell? ⟨gb191, 2, none⟩ = some (.int .i64 a0_2) := (blk_cell BK191.out 2).trans rfl
           have hfz20_0 := blk_frozen BK191.out 0
           have hfz20_1 := blk_frozen BK191.out 1
           have hfz20_2 := blk_frozen BK191.out 2
           have p198 : 0 ≤ (x9_1 : Int) := of_decide_eq_true (by first | (with_reducible assumption) | assumption)
           have q198 : x9_1 < (l0_1.length : Int) := of_decide_eq_true (by first | (with_reducible assumption) | assumption)
           obtain ⟨ad198, A198_3, c198_3, A198_4, c198_4, A198_5, c198_5, A198_6, c198_6, e198, hx198_0, hx198_1, hx198_2, hx198_3, hx198_4, hx198_5, hx198_6, hl198_3, hi198_3, hl198_4, hi198_4, hl198_5, hi198_5, hl198_6, hi198_6⟩ := at_T42 HR0_1.out x9_1 p198 q198
           cases e198
           replace hx198_0 := (HB.out.cell (World.block_lt_of_cell? w _ hx198_0)).trans hx198_0
           replace hx198_1 := (HB.out.cell (World.block_lt_of_cell? w _ hx198_1)).trans hx198_1
           replace hx198_2 := (HB.out.cell (World.block_lt_of_cell? w _ hx198_2)).trans hx198_2
           replace hx198_3 := (HB.out.cell (World.block_lt_of_cell? w _ hx198_3)).trans hx198_3
           replace hx198_4 := (HB.out.cell (World.block_lt_of_cell? w _ hx198_4)).trans hx198_4
           replace hx198_5 := (HB.out.cell (World.block_lt_of_cell? w _ hx198_5)).trans hx198_5
           replace hx198_6 := (HB.out.cell (World.block_lt_of_cell? w _ hx198_6)).trans hx198_6
           have HR198_3 := Aside0.mk hi198_3
           have HC198_3 := Aside0.mk hl198_3
           clear hi198_3 hl198_3
           have HR198_4 := Aside0.mk hi198_4
           have HC198_4 := Aside0.mk hl198_4
           clear hi198_4 hl198_4
           have HR198_5 := Aside0.mk hi198_5
           have HC198_5 := Aside0.mk hl198_5
           clear hi198_5 hl198_5
           have HR198_6 := Aside0.mk hi198_6
           have HC198_6 := Aside0.mk hl198_6
           clear hi198_6 hl198_6
           replace p198 := eq_true p198
           replace q198 := eq_true q198
           have p199 : 0 ≤ (x11_2 : Int) := of_decide_eq_true (by first | (with_reducible assumption) | assumption)
           have q199 : x11_2 < (t192.length : Int) := of_decide_eq_true (by first | (with_reducible assumption) | assumption)
           obtain ⟨ad199, e199, hx199_0⟩ := Kd.at_int (Kd.R_reads' HO_7.out).2.2 x11_2 p199 q199
           cases e199
           replace p199 := eq_true p199
           replace q199 := eq_true q199
           go_wp2_with (first | (go_at_call 20; (with_reducible refine (pacelineref05_Has.calls k2 _ _ ((rd_T42 l0_1 x9_1).f5) (rd t192 x11_2) t200 _ ?side1 ?side2 A18.out).mono ?_); (case side1 => repeat (first | exact (Kd.C_below HR198_5.out HB.out) | (with_reducible refine Kd.C_alloc ?_ _) | (with_reducible refine Kd.C_drewN ?_ _) | (with_reducible refine Kd.C_drew ?_))); (case side2 => exact HC198_5.out); rintro e w' ⟨rfl, ⟨nd, rfl⟩⟩; (try first | exact ⟨rfl, _, World.drewN_drewN _ _ _⟩ | exact ⟨rfl, _, Eq.trans (World.drewN_drewN _ _ _) (congrArg (World.drewN _) (Nat.add_assoc _ _ _))⟩)))
           repeat (go_quiet (first | (go_at_call 20; (with_reducible refine (pacelineref05_Has.calls k2 _ _ ((rd_T42 l0_1 x9_1).f5) (rd t192 x11_2) t200 _ ?side1 ?side2 A18.out).mono ?_); (case side1 => repeat (first | exact (Kd.C_below HR198_5.out HB.out) | (with_reducible refine Kd.C_alloc ?_ _) | (with_reducible refine Kd.C_drewN ?_ _) | (with_reducible refine Kd.C_drew ?_))); (case side2 => exact HC198_5.out); rintro e w' ⟨rfl, ⟨nd, rfl⟩⟩; (try first | exact ⟨rfl, _, World.drewN_drewN _ _ _⟩ | exact ⟨rfl, _, Eq.trans (World.drewN_drewN _ _ _) (congrArg (World.drewN _) (Nat.add_assoc _ _ _))⟩))); try go_wp2_with (first | (go_at_call 20; (with_reducible refine (pacelineref05_Has.calls k2 _ _ ((rd_T42 l0_1 x9_1).f5) (rd t192 x11_2) t200 _ ?side1 ?side2 A18.out).mono ?_); (case side1 => repeat (first | exact (Kd.C_below HR198_5.out HB.out) | (with_reducible refine Kd.C_alloc ?_ _) | (with_reducible refine Kd.C_drewN ?_ _) | (with_reducible refine Kd.C_drew ?_))); (case side2 => exact HC198_5.out); rintro e w' ⟨rfl, ⟨nd, rfl⟩⟩; (try first | exact ⟨rfl, _, World.drewN_drewN _ _ _⟩ | exact ⟨rfl, _, Eq.trans (World.drewN_drewN _ _ _) (congrArg (World.drewN _) (Nat.add_assoc _ _ _))⟩))))
           go_roundg k2
           case measure => have := HK1.out; have := HK2.out; omega
           case rel => exact ⟨(t200), (wrap64 (x11_2 + 1)), (by first | rfl | (simp; done) | (simp [*]; done)), (by first | rfl | (simp; done) | (simp [*]; done)), H', ⟨by have := HK1.out; have := HK2.out; omega⟩, ⟨by (with_reducible repeat (first | apply Kd.R_alloc | apply Kd.R_drewN | apply Kd.R_drew)); exact HO_7.out⟩, ⟨by (with_reducible repeat (first | apply Kd.R_alloc | apply Kd.R_drewN | apply Kd.R_drew)); exact HO_8.out⟩, ⟨by (with_reducible repeat (first | refine blk_drewN ?_ _ | refine blk_drew ?_ | refine blk_alloc ?_ _)); exact BK191.out⟩, ⟨by repeat (first | (with_reducible first | exact HB.out | apply below_alloc | apply pw_below_drewN | apply below_drew1 | refine below_set ?_ GE191.out) | exact HB.out)⟩⟩
          ·rw [if_neg c17] at H
           exact absurd H (by simp)
         ·rw [if_neg c16] at H
          exact absurd H (by simp)
        ·rw [if_neg c15] at H
         exact absurd H (by simp)
      ·rw [if_neg c12] at H
       have c12b0 : decide (x11_2 < (t192.length : Int)) = false := decide_eq_false c12
       clear c12
       by_cases c21 : x9_1 = a1
       ·rw [if_pos c21] at H
        have c21b0 : (x9_1 == a1) = true := beq_iff_eq.mpr c21
        have c21b1 : (x9_1 != a1) = false := bne_eq_false_iff_eq.mpr c21
        clear c21
        have H' := Aside0.mk H
        clear H
        obtain ⟨Ao22, co22, eo22⟩ := Kd.R_slice HO_7.out
        subst eo22
        go_wp2
        repeat (go_quiet (fail); try go_wp2)
        go_roundg k2
        case measure => have := HK1.out; have := HK2.out; omega
        case rel => exact ⟨(x8_1), (wrap64 (x9_1 + 1)), (by first | rfl | (simp; done) | (simp [*]; done)), H', ⟨by have := HK1.out; have := HK2.out; omega⟩, ⟨by (with_reducible repeat (first | apply Kd.R_alloc | apply Kd.R_drewN | apply Kd.R_drew)); exact HO_7.out⟩, ⟨by (with_reducible repeat (first | apply Kd.R_alloc | apply Kd.R_drewN | apply Kd.R_drew)); exact HO_8.out⟩, ⟨by (with_reducible repeat (first | refine blk_drewN ?_ _ | refine blk_drew ?_ | refine blk_alloc ?_ _)); exact BK191.out⟩, ⟨by repeat (first | (with_reducible first | exact HB.out | apply below_alloc | apply pw_below_drewN | apply below_drew1 | refine below_set ?_ GE191.out) | exact HB.out)⟩⟩
       ·rw [if_neg c21] at H
        have c21b0 : (x9_1 == a1) = false := beq_eq_false_iff_ne.mpr c21
        have c21b1 : (x9_1 != a1) = true := bne_iff_ne.mpr c21
        by_cases c23 : x10_2 = true
        ·subst c23
         have H1 : (if x8_1.length < 17592186044416 then (pacelineref08_Routes.l0 k2 a1 t192 (x8_1 ++ [x9_1]) (wrap64 (x9_1 + 1)) l0_0 l0_1 a0_2) else (none)) = some r := by rw [if_pos rfl] at H; exact H
         clear H
         have H := H1
         clear H1
         by_cases c24 : x8_1.length < 17592186044416
         ·rw [if_pos c24] at H
          have LMc24 := Aside0.mk c24
          clear c24
          obtain ⟨y201, hy201⟩ : ∃ y_ : List Int, y_ = (x8_1 ++ [x9_1]) := ⟨_, rfl⟩
          replace H : (pacelineref08_Routes.l0 k2 a1 t192 y201 (wrap64 (x9_1 + 1)) l0_0 l0_1 a0_2) = some r := by first | (rw [hy201]; with_reducible exact H) | (have H2_ := (Option.bind_some _ _).symm.trans H; rw [hy201]; with_reducible exact H2_) | (have H2_ := (Option.bind_some _ _).symm.trans H; with_reducible exact H2_) | with_reducible exact H | (rw [hy201]; exact H) | exact H
          have Ny201 := Aside0.mk hy201
          clear hy201
          have H' := Aside0.mk H
          clear H
          obtain ⟨Ao25, co25, eo25⟩ := Kd.R_slice HO_7.out
          subst eo25
          go_wp2_with (first | ((with_reducible refine gate_builtin (b := .append) (xs := #[.tmp 50, .tmp 52]) rfl ?_); at_builtin; refine Kd.R_append (Kd.int .i64) (w0 := w) w.heap.size rfl (.tmp 50) (.tmp 52) 22 3 (.int .i64 0) 8 rfl Try.underlying22 info3 rfl (by decide) (by omega) u8 x8_1 x9_1 [.int .i64 x9_1] (fun k_ => some k_ ≠ (.slice Ao25 t192.length co25 : Value).ownBlock) (fun _ => False) rfl rfl ?aP (fun _ hk => hk.elim) ?aF ?aO ?aB ?aS ?aL ?_; (case aP => exact rfl); (case aB => exact (by repeat (first | (with_reducible first | exact HB.out | apply below_alloc | apply pw_below_drewN | apply below_drew1 | refine below_set ?_ GE191.out) | exact HB.out))); (case aF => exact (fun k_ hk => Kd.fresh' (Kd.R_lt (by (with_reducible repeat (first | apply Kd.R_alloc | apply Kd.R_drewN | apply Kd.R_drew)); exact HO_7.out)) k_ hk)); (case aO => exact (by (with_reducible repeat (first | apply Kd.R_alloc | apply Kd.R_drewN | apply Kd.R_drew)); exact HO_8.out)); (case aS => exact (below_size (by repeat (first | (with_reducible first | exact HB.out | apply below_alloc | apply pw_below_drewN | apply below_drew1 | refine below_set ?_ GE191.out) | exact HB.out)))); (case aL => have := LMc24.out; omega); intro v202 w26 ho hb hg hat; rw [← Ny201.out] at ho; have n0_ := Aside0.mk (Kd.R_after (ok := (fun _ => True)) (by (with_reducible repeat (first | apply Kd.R_alloc | apply Kd.R_drewN | apply Kd.R_drew)); exact Kd.R_mono HO_7.out (fun _ hk => ⟨trivial, hk⟩)) hg hat); have n1_ := Aside0.mk (blk_grown (g := gb191) (o := .cells #[.slice A0_0 l0_0.length c0_0, .slice A0_1 l0_1.length c0_1, .int .i64 a0_2] 25 (0, 0)) (by (with_reducible repeat (first | refine blk_drewN ?_ _ | refine blk_drew ?_ | refine blk_alloc ?_ _)); exact BK191.out) hg (Kd.R_ne HO_8.out BK191.out (by decide))); have n2_ := Aside0.mk (hb); have n3_ := Aside0.mk (ho); clear HO_7; clear BK191; clear HB; clear HO_8; have HO_7 := n0_; have BK191 := n1_; have HB := n2_; have HO203 := n3_; clear n0_ n1_ n2_ n3_; clear ho hb hg hat))
          repeat (go_quiet (first | ((with_reducible refine gate_builtin (b := .append) (xs := #[.tmp 50, .tmp 52]) rfl ?_); at_builtin; refine Kd.R_append (Kd.int .i64) (w0 := w) w.heap.size rfl (.tmp 50) (.tmp 52) 22 3 (.int .i64 0) 8 rfl Try.underlying22 info3 rfl (by decide) (by omega) u8 x8_1 x9_1 [.int .i64 x9_1] (fun k_ => some k_ ≠ (.slice Ao25 t192.length co25 : Value).ownBlock) (fun _ => False) rfl rfl ?aP (fun _ hk => hk.elim) ?aF ?aO ?aB ?aS ?aL ?_; (case aP => exact rfl); (case aB => exact (by repeat (first | (with_reducible first | exact HB.out | apply below_alloc | apply pw_below_drewN | apply below_drew1 | refine below_set ?_ GE191.out) | exact HB.out))); (case aF => exact (fun k_ hk => Kd.fresh' (Kd.R_lt (by (with_reducible repeat (first | apply Kd.R_alloc | apply Kd.R_drewN | apply Kd.R_drew)); exact HO_7.out)) k_ hk)); (case aO => exact (by (with_reducible repeat (first | apply Kd.R_alloc | apply Kd.R_drewN | apply Kd.R_drew)); exact HO_8.out)); (case aS => exact (below_size (by repeat (first | (with_reducible first | exact HB.out | apply below_alloc | apply pw_below_drewN | apply below_drew1 | refine below_set ?_ GE191.out) | exact HB.out)))); (case aL => have := LMc24.out; omega); intro v202 w26 ho hb hg hat; rw [← Ny201.out] at ho; have n0_ := Aside0.mk (Kd.R_after (ok := (fun _ => True)) (by (with_reducible repeat (first | apply Kd.R_alloc | apply Kd.R_drewN | apply Kd.R_drew)); exact Kd.R_mono HO_7.out (fun _ hk => ⟨trivial, hk⟩)) hg hat); have n1_ := Aside0.mk (blk_grown (g := gb191) (o := .cells #[.slice A0_0 l0_0.length c0_0, .slice A0_1 l0_1.length c0_1, .int .i64 a0_2] 25 (0, 0)) (by (with_reducible repeat (first | refine blk_drewN ?_ _ | refine blk_drew ?_ | refine blk_alloc ?_ _)); exact BK191.out) hg (Kd.R_ne HO_8.out BK191.out (by decide))); have n2_ := Aside0.mk (hb); have n3_ := Aside0.mk (ho); clear HO_7; clear BK191; clear HB; clear HO_8; have HO_7 := n0_; have BK191 := n1_; have HB := n2_; have HO203 := n3_; clear n0_ n1_ n2_ n3_; clear ho hb hg hat)); try go_wp2_with (first | ((with_reducible refine gate_builtin (b := .append) (xs := #[.tmp 50, .tmp 52]) rfl ?_); at_builtin; refine Kd.R_append (Kd.int .i64) (w0 := w) w.heap.size rfl (.tmp 50) (.tmp 52) 22 3 (.int .i64 0) 8 rfl Try.underlying22 info3 rfl (by decide) (by omega) u8 x8_1 x9_1 [.int .i64 x9_1] (fun k_ => some k_ ≠ (.slice Ao25 t192.length co25 : Value).ownBlock) (fun _ => False) rfl rfl ?aP (fun _ hk => hk.elim) ?aF ?aO ?aB ?aS ?aL ?_; (case aP => exact rfl); (case aB => exact (by repeat (first | (with_reducible first | exact HB.out | apply below_alloc | apply pw_below_drewN | apply below_drew1 | refine below_set ?_ GE191.out) | exact HB.out))); (case aF => exact (fun k_ hk => Kd.fresh' (Kd.R_lt (by (with_reducible repeat (first | apply Kd.R_alloc | apply Kd.R_drewN | apply Kd.R_drew)); exact HO_7.out)) k_ hk)); (case aO => exact (by (with_reducible repeat (first | apply Kd.R_alloc | apply Kd.R_drewN | apply Kd.R_drew)); exact HO_8.out)); (case aS => exact (below_size (by repeat (first | (with_reducible first | exact HB.out | apply below_alloc | apply pw_below_drewN | apply below_drew1 | refine below_set ?_ GE191.out) | exact HB.out)))); (case aL => have := LMc24.out; omega); intro v202 w26 ho hb hg hat; rw [← Ny201.out] at ho; have n0_ := Aside0.mk (Kd.R_after (ok := (fun _ => True)) (by (with_reducible repeat (first | apply Kd.R_alloc | apply Kd.R_drewN | apply Kd.R_drew)); exact Kd.R_mono HO_7.out (fun _ hk => ⟨trivial, hk⟩)) hg hat); have n1_ := Aside0.mk (blk_grown (g := gb191) (o := .cells #[.slice A0_0 l0_0.length c0_0, .slice A0_1 l0_1.length c0_1, .int .i64 a0_2] 25 (0, 0)) (by (with_reducible repeat (first | refine blk_drewN ?_ _ | refine blk_drew ?_ | refine blk_alloc ?_ _)); exact BK191.out) hg (Kd.R_ne HO_8.out BK191.out (by decide))); have n2_ := Aside0.mk (hb); have n3_ := Aside0.mk (ho); clear HO_7; clear BK191; clear HB; clear HO_8; have HO_7 := n0_; have BK191 := n1_; have HB := n2_; have HO203 := n3_; clear n0_ n1_ n2_ n3_; clear ho hb hg hat)))
          go_roundg k2
          case measure => have := HK1.out; have := HK2.out; omega
          case rel => exact ⟨(y201), (wrap64 (x9_1 + 1)), (by first | rfl | (simp; done) | (simp [*]; done)), H', ⟨by have := HK1.out; have := HK2.out; omega⟩, ⟨by (with_reducible repeat (first | apply Kd.R_alloc | apply Kd.R_drewN | apply Kd.R_drew)); exact Kd.R_mono HO_7.out (fun _ hk => hk.2)⟩, ⟨by (with_reducible repeat (first | apply Kd.R_alloc | apply Kd.R_drewN | apply Kd.R_drew)); exact HO203.out⟩, ⟨by (with_reducible repeat (first | refine blk_drewN ?_ _ | refine blk_drew ?_ | refine blk_alloc ?_ _)); exact BK191.out⟩, ⟨by repeat (first | (with_reducible first | exact HB.out | apply below_alloc | apply pw_below_drewN | apply below_drew1 | refine below_set ?_ GE191.out) | exact HB.out)⟩⟩
         ·rw [if_neg c24] at H
          exact absurd H (by simp)
        ·replace c23 := Bool.eq_false_iff.mpr c23
         subst c23
         have H1 : (pacelineref08_Routes.l0 k2 a1 t192 x8_1 (wrap64 (x9_1 + 1)) l0_0 l0_1 a0_2) = some r := by rw [if_neg (show ¬ (false = true) by decide)] at H; exact H
         clear H
         have H := H1
         clear H1
         have H' := Aside0.mk H
         clear H
         obtain ⟨Ao27, co27, eo27⟩ := Kd.R_slice HO_7.out
         subst eo27
         go_wp2
         repeat (go_quiet (fail); try go_wp2)
         go_roundg k2
         case measure => have := HK1.out; have := HK2.out; omega
         case rel => exact ⟨(x8_1), (wrap64 (x9_1 + 1)), (by first | rfl | (simp; done) | (simp [*]; done)), H', ⟨by have := HK1.out; have := HK2.out; omega⟩, ⟨by (with_reducible repeat (first | apply Kd.R_alloc | apply Kd.R_drewN | apply Kd.R_drew)); exact HO_7.out⟩, ⟨by (with_reducible repeat (first | apply Kd.R_alloc | apply Kd.R_drewN | apply Kd.R_drew)); exact HO_8.out⟩, ⟨by (with_reducible repeat (first | refine blk_drewN ?_ _ | refine blk_drew ?_ | refine blk_alloc ?_ _)); exact BK191.out⟩, ⟨by repeat (first | (with_reducible first | exact HB.out | apply below_alloc | apply pw_below_drewN | apply below_drew1 | refine below_set ?_ GE191.out) | exact HB.out)⟩⟩
   ·rw [if_neg c10] at H
    have c10b0 : decide (x9_1 < (l0_1.length : Int)) = false := decide_eq_false c10
    clear c10
    obtain rfl := Option.some.inj H
    have hcz28_0 : wr.cell? ⟨gb191, 0, none⟩ = some (.slice A0_0 l0_0.length c0_0) := (blk_cell BK191.out 0).trans rfl
    have hcz28_1 : wr.cell? ⟨gb191, 1, none⟩ = some (.slice A0_1 l0_1.length c0_1) := (blk_cell BK191.out 1).trans rfl
    have hcz28_2 : wr.cell? ⟨gb191, 2, none⟩ = some (.int .i64 a0_2) := (blk_cell BK191.out 2).trans rfl
    have hfz28_0 := blk_frozen BK191.out 0
    have hfz28_1 := blk_frozen BK191.out 1
    have hfz28_2 := blk_frozen BK191.out 2
    go_wp2
    repeat (go_quiet (fail); try go_wp2)
    go_ret
    exact ⟨_, by first | rfl | (simp [errW_none, errW_some] <;> rfl) | (simp [*, errW_none, errW_some] <;> rfl), by (with_reducible repeat (first | apply Kd.R_alloc | apply Kd.R_drewN | apply Kd.R_drew)); exact Kd.R_mono HO_8.out (fun _ hk => trivial), by repeat (first | (with_reducible first | exact HB.out | apply below_alloc | apply pw_below_drewN | apply below_drew1 | refine below_set ?_ GE191.out) | exact HB.out)⟩

/-! ### pacelinelaw08_ConfigLater: function 5 (by hand) -/
theorem clCells {α : Type} {d : Kd α} {w : World} {A : Option Addr} {n : Nat} {l : List α} (h : d.C w A n l) {k : Nat} {x : α} (hx : l[k]? = some x) :
    ∃ ad c, A = some ad ∧ c.length = d.sz ∧ d.K w x c ∧ ∀ i u, c[i]? = some u → w.cell? (ad.add (k * d.sz + i)) = some u := by
  obtain ⟨hk, _⟩ := List.getElem?_eq_some_iff.1 hx
  obtain ⟨ad, rfl, hc⟩ := h.2.2 (by have := h.1; omega)
  obtain ⟨c, h1, h2, h3⟩ := hc k x hx
  exact ⟨ad, c, rfl, h1, h2, h3⟩
theorem clGet {α : Type} {l : List α} {z : α} {i : Nat} (h : i < l.length) : l[i]? = some (l.getD i z) := by
  rw [List.getD_eq_getElem?_getD, List.getElem?_eq_getElem h]
  rfl
theorem clWrap (n : Int) (h0 : 0 ≤ n) (h1 : n < 9223372036854775808) : IntKind.i64.wrap n = n := by
  have hm : n % 18446744073709551616 = n := by omega
  unfold IntKind.wrap
  simp [IntKind.bits, IntKind.signed, hm]
  omega
theorem clAppC {α : Type} (a : α) (l m : List α) : List.append (a :: l) m = a :: List.append l m := rfl
theorem clAppN {α : Type} (m : List α) : List.append [] m = m := rfl
/-- What is asked of a message that a rule of federate g sends. -/
def clGood (k : Nat) (l0 : List Int) (l1 : List S42) (a0 : Int) (g : Nat) (now : Int) (m : S48) : Prop :=
  now + (l1.getD g z42).f1 ≤ m.f0.f0 ∧ m.f1 ≠ g ∧ m.f0.f1 = g ∧ 7 ≤ m.f0.f2 ∧ pacelineref05_Has.f k (l1.getD g z42).f4 m.f2 = some true ∧ ∃ R, pacelineref08_Routes.f k l0 l1 a0 g m.f2 = some R ∧ pacelineref05_Has.f k R m.f1 = some true
def clSends (k : Nat) (l0 : List Int) (l1 : List S42) (a0 : Int) (g q : Nat) (now body : Int) : Prop :=
  ∃ L, config_Spread.f k l0 l1 a0 g 7 now body (((l1.getD g z42).f3.getD q z44).f3) = some L ∧ L.length ≤ 1000 ∧ ∀ i, i < L.length → clGood k l0 l1 a0 g now (L.getD i z48)
def pacelinelaw08_ConfigLater.P (k : Nat) (l0 : List Int) (l1 : List S42) (a0 a1 a2 a3 a4 : Int) : Prop := pacelinelaw08_heavy.f k l0 l1 a0 = some true ∨ (pacelinelaw08_heavy.f k l0 l1 a0 = some false ∧ l1.length ≤ 20 ∧ ∃ (n e m : Int), config_Check.f l0 l1 a0 = some (n, e) ∧ pacelineref08_Check.f k l0 l1 a0 = some (m, e) ∧ (e = 0 → 1 ≤ l1.length ∧ ∀ g, g < l1.length → (l1.getD g z42).f3.length ≤ 60 ∧ 0 ≤ (l1.getD g z42).f1 ∧ (l1.getD g z42).f1 ≤ 1048576 ∧ ∀ q, q < (l1.getD g z42).f3.length → clSends k l0 l1 a0 g q a3 a4))
def clBounds (a1 a2 a3 a4 : Int) : Prop := (0 ≤ a1 ∧ a1 ≤ 255) ∧ (0 ≤ a2 ∧ a2 ≤ 255) ∧ (0 ≤ a3 ∧ a3 ≤ 4294967295) ∧ 0 ≤ a4 ∧ a4 ≤ 65535
open Classical in
noncomputable def pacelinelaw08_ConfigLater.f (k : Nat) (l0 : List Int) (l1 : List S42) (a0 a1 a2 a3 a4 : Int) : Option Bool := if clBounds a1 a2 a3 a4 ∧ pacelinelaw08_ConfigLater.P k l0 l1 a0 a1 a2 a3 a4 then some true else none
set_option maxRecDepth 100000 in
set_option maxHeartbeats 8000000 in
theorem pacelinelaw08_ConfigLater.calls (k : Nat) (A0 : Option Addr) (c0 : Nat) (l0 : List Int) (A1 : Option Addr) (c1 : Nat) (l1 : List S42) (a0 a1 a2 a3 a4 : Int) (r : Bool) (w : World) (hr0 : Kd.C (Kd.int .i64) w A0 l0.length l0) (hc0 : l0.length ≤ c0) (hr1 : Kd.C k42 w A1 l1.length l1) (hc1 : l1.length ≤ c1) (h : pacelinelaw08_ConfigLater.f k l0 l1 a0 a1 a2 a3 a4 = some r) :
    Calls Try.prog 5 #[.agg #[.slice A0 l0.length c0, .slice A1 l1.length c1, .int .i64 a0], .int .u8 a1, .int .u8 a2, .int .u32 a3, .int .u16 a4] w fun e w' => e = .returned (.bool r) ∧ Below w.heap.size w w' := by
  unfold pacelinelaw08_ConfigLater.f at h
  split at h
  · rename_i hP
    obtain rfl := Option.some.inj h
    clear h
    obtain ⟨⟨⟨b1, b2⟩, ⟨b3, b4⟩, ⟨b5, b6⟩, b7, b8⟩, hP⟩ := hP
    have BA := Aside0.mk (below_alloc (Below.refl w.heap.size w) (.cells #[.slice A0 l0.length c0, .slice A1 l1.length c1, .int .i64 a0] 25 (0, 0)))
    have BN := Aside0.mk (show (w.alloc (.cells #[.slice A0 l0.length c0, .slice A1 l1.length c1, .int .i64 a0] 25 (0, 0))).heap[w.heap.size]? = some (.cells #[.slice A0 l0.length c0, .slice A1 l1.length c1, .int .i64 a0] 25 (0, 0)) from blk_new w _)
    have CSh := Aside0.mk (fun W => pacelinelaw08_shown.calls true W rfl)
    rcases hP with hv | ⟨hv, hlen, n, e, m, E1, E2, E3⟩
    · have CH := Aside0.mk (pacelinelaw08_heavy.calls k A0 c0 l0 A1 c1 l1 a0 true _ (Kd.C_below hr0 BA.out) hc0 (Kd.C_below hr1 BA.out) hc1 hv)
      clear hv hr0 hc0 hr1 hc1
      go_enter Try.func5, Try.ntmps5
      go_wp2_with (first | (go_at_call 9; refine CH.out.mono ?_; rintro e w1 ⟨rfl, hb⟩; have B1 := Aside0.mk (below_step BA.out hb); clear hb) | (go_at_call 12; refine (CSh.out _).mono ?_; rintro e w2 ⟨rfl, hb⟩; have B2 := Aside0.mk (below_step B1.out hb); clear hb))
      go_ret
      exact ⟨rfl, B2.out⟩
    · have CH := Aside0.mk (pacelinelaw08_heavy.calls k A0 c0 l0 A1 c1 l1 a0 false _ (Kd.C_below hr0 BA.out) hc0 (Kd.C_below hr1 BA.out) hc1 hv)
      have H0 := Aside0.mk (And.intro hr0 hc0)
      have H1 := Aside0.mk (And.intro hr1 hc1)
      have CK1 := Aside0.mk (fun W (hW : Below w.heap.size w W) => config_Check.calls A0 c0 l0 A1 c1 l1 a0 n e W (Kd.C_below hr0 hW) hc0 (Kd.C_below hr1 hW) hc1 E1)
      have CK3 := Aside0.mk (fun W (hW : Below w.heap.size w W) => pacelineref08_Check.calls k A0 c0 l0 A1 c1 l1 a0 m e W (Kd.C_below hr0 hW) hc0 (Kd.C_below hr1 hW) hc1 E2)
      have HL := Aside0.mk hlen
      clear hv hr0 hc0 hr1 hc1 E1 E2 hlen
      by_cases he : e = 0
      · subst he
        have HE := Aside0.mk (E3 rfl)
        clear E3
        go_enter Try.func5, Try.ntmps5
        go_upto_region 9 with (first | (go_at_call 9; (with_reducible refine CH.out.mono ?_); rintro _ w1 ⟨rfl, hb⟩; have B1 := Aside0.mk (below_step BA.out hb); have N1 := Aside0.mk (blk_below BN.out hb); clear hb; have p0 := (blk_cell N1.out 0).trans rfl; have p1 := (blk_cell N1.out 1).trans rfl; have p2 := (blk_cell N1.out 2).trans rfl) | (go_at_call 10; (with_reducible refine (CK1.out _ B1.out).mono ?_); rintro _ w2 ⟨rfl, hb⟩; have B2 := Aside0.mk (below_step B1.out hb); have N2 := Aside0.mk (blk_below N1.out hb); clear hb; replace p0 := (blk_cell N2.out 0).trans rfl; replace p1 := (blk_cell N2.out 1).trans rfl; replace p2 := (blk_cell N2.out 2).trans rfl) | (go_at_call 11; (with_reducible refine (CK3.out _ B2.out).mono ?_); rintro _ w3 ⟨rfl, hb⟩; have B3 := Aside0.mk (below_step B2.out hb); have N3 := Aside0.mk (blk_below N2.out hb); clear hb; replace p0 := (blk_cell N3.out 0).trans rfl; replace p1 := (blk_cell N3.out 1).trans rfl; replace p2 := (blk_cell N3.out 2).trans rfl) | (go_at_call 12; (with_reducible refine (CSh.out _).mono ?_); rintro _ w4 ⟨rfl, hb⟩; have B4_ := Aside0.mk (below_step B3.out hb); have N4 := Aside0.mk (blk_below N3.out hb); clear hb; replace p0 := (blk_cell N4.out 0).trans rfl; replace p1 := (blk_cell N4.out 1).trans rfl; replace p2 := (blk_cell N4.out 2).trans rfl))
        have hlp : 1 ≤ l1.length := HE.out.1
        have hn0 : ((l1.length : Int) == 0) = false := beq_eq_false_iff_ne.mpr (by omega)
        have hn1 : (l1.length : Int) ≠ 0 := by omega
        have hL20 : (l1.length : Int) ≤ 20 := by have := HL.out; omega
        go_upto_region 10 with (fail)
        obtain ⟨G, hG, hGl⟩ : ∃ G : Nat, a1 % (l1.length : Int) = (G : Int) ∧ G < l1.length := ⟨(a1 % (l1.length : Int)).toNat, (Int.toNat_of_nonneg (Int.emod_nonneg _ hn1)).symm, by have h1 := Int.emod_lt_of_pos a1 (show (0 : Int) < l1.length by omega); have h2 := Int.emod_nonneg a1 hn1; omega⟩
        rw [hG]
        clear hG hn0 hn1
        have hG0 : (0 : Int) ≤ (G : Int) := by omega
        have hG1 : (G : Int) < (l1.length : Int) := by omega
        have hG1' : G < l1.length := hGl
        have hGi : ((G : Int)).toNat = G := Int.toNat_natCast G
        have hHE := HE.out.2 G hGl
        obtain ⟨ad, cs, rfl, hcl, hK, hcell⟩ := clCells H1.out.1 (clGet (z := z42) hGl)
        have CSP := Aside0.mk (fun q (hq : q < (l1.getD G z42).f3.length) => hHE.2.2.2 q hq)
        unfold clSends at CSP
        unfold clGood at CSP
        generalize hXE : l1.getD G z42 = x at hK hHE CSP
        clear hXE HE
        obtain ⟨y1, y2, y3, -⟩ := hHE
        obtain ⟨B3, d3, B4, d4, B5, d5, B6, d6, rfl, s1, s2, s3, s4, -, -, -, -⟩ := k42_open hK
        have q1 : w.cell? ⟨(ad.add (G * 7)).block, (ad.add (G * 7)).off + 1, none⟩ = some (.int .i64 x.f1) := by have := hcell 1 _ rfl; rwa [add_field _ _ 1 (by omega)] at this
        have q3 : w.cell? ⟨(ad.add (G * 7)).block, (ad.add (G * 7)).off + 3, none⟩ = some (.slice B3 x.f3.length d3) := by have := hcell 3 _ rfl; rwa [add_field _ _ 3 (by omega)] at this
        have q4 : w.cell? ⟨(ad.add (G * 7)).block, (ad.add (G * 7)).off + 4, none⟩ = some (.slice B4 x.f4.length d4) := by have := hcell 4 _ rfl; rwa [add_field _ _ 4 (by omega)] at this
        have H3 := Aside0.mk (And.intro s1 s2)
        have H4 := Aside0.mk (And.intro s3 s4)
        have Q1 := Aside0.mk q1
        have Q3 := Aside0.mk q3
        have Q4 := Aside0.mk q4
        replace q1 := pw_cell_below B4_.out q1
        replace q3 := pw_cell_below B4_.out q3
        replace q4 := pw_cell_below B4_.out q4
        clear hcell hcl hK s1 s2 s3 s4
        by_cases h3 : x.f3.length = 0
        · have ct1 : ((x.f3.length : Int) == 0) = true := beq_iff_eq.mpr (by omega)
          clear CSP
          go_wp2
          go_ret
          exact ⟨rfl, B4_.out⟩
        · have ct1 : ((x.f3.length : Int) == 0) = false := beq_eq_false_iff_ne.mpr (by omega)
          have ct2 : (x.f3.length : Int) ≠ 0 := by omega
          have ct3 : (x.f3.length : Int) ≤ 60 := by omega
          go_upto_region 12 with (fail)
          obtain ⟨Q, hQ, hQl⟩ : ∃ Q : Nat, a2 % (x.f3.length : Int) = (Q : Int) ∧ Q < x.f3.length := ⟨(a2 % (x.f3.length : Int)).toNat, (Int.toNat_of_nonneg (Int.emod_nonneg _ ct2)).symm, by have h1 := Int.emod_lt_of_pos a2 (show (0 : Int) < x.f3.length by omega); have h2 := Int.emod_nonneg a2 ct2; omega⟩
          have hQ0 : (0 : Int) ≤ (Q : Int) := by omega
          have hQ1 : (Q : Int) < (x.f3.length : Int) := by omega
          have hQi : ((Q : Int)).toNat = Q := Int.toNat_natCast Q
          obtain ⟨ae, ce, rfl, hcl, hK, hcell⟩ := clCells H3.out.2 (clGet (z := z44) hQl)
          have CSQ := Aside0.mk (CSP.out Q hQl)
          generalize hRE : x.f3.getD Q z44 = r at hK CSQ
          clear hRE CSP
          obtain ⟨B7, d7, rfl, s7, s8⟩ := k44_open hK
          have r0 : w.cell? (ae.add (Q * 4)) = some (.int .i64 r.f0) := by exact hcell 0 _ rfl
          have r1 : w.cell? ⟨(ae.add (Q * 4)).block, (ae.add (Q * 4)).off + 1, none⟩ = some (.int .i64 r.f1) := by have := hcell 1 _ rfl; rwa [add_field _ _ 1 (by omega)] at this
          have r2 : w.cell? ⟨(ae.add (Q * 4)).block, (ae.add (Q * 4)).off + 2, none⟩ = some (.int .i64 r.f2) := by have := hcell 2 _ rfl; rwa [add_field _ _ 2 (by omega)] at this
          have r3 : w.cell? ⟨(ae.add (Q * 4)).block, (ae.add (Q * 4)).off + 3, none⟩ = some (.slice B7 r.f3.length d7) := by have := hcell 3 _ rfl; rwa [add_field _ _ 3 (by omega)] at this
          replace r0 := pw_cell_below B4_.out r0
          replace r1 := pw_cell_below B4_.out r1
          replace r2 := pw_cell_below B4_.out r2
          replace r3 := pw_cell_below B4_.out r3
          have H7 := Aside0.mk (And.intro s7 s8)
          clear hcell hcl hK s7 s8
          have hQa : IntKind.i64.wrap a2 = a2 := clWrap _ (by omega) (by omega)
          have hQb : a2.tmod (x.f3.length : Int) = (Q : Int) := by rw [Int.tmod_eq_emod_of_nonneg b3]; exact hQ
          go_region_held3 (fun w' => w'.cell? ⟨w.heap.size, 1, none⟩ = some (.slice (some ad) l1.length c1) ∧ w'.cell? ⟨(ad.add (G * 7)).block, (ad.add (G * 7)).off + 3, none⟩ = some (.slice (some ae) x.f3.length d3) ∧ w'.cell? (ae.add (Q * 4)) = some (.int .i64 r.f0) ∧ w'.cell? ⟨(ae.add (Q * 4)).block, (ae.add (Q * 4)).off + 1, none⟩ = some (.int .i64 r.f1) ∧ w'.cell? ⟨(ae.add (Q * 4)).block, (ae.add (Q * 4)).off + 2, none⟩ = some (.int .i64 r.f2) ∧ w'.cell? ⟨(ae.add (Q * 4)).block, (ae.add (Q * 4)).off + 3, none⟩ = some (.slice B7 r.f3.length d7)) (go_keep) (fail)
          have B5 := Aside0.mk (show Below w.heap.size w (w4.alloc (.cells #[.int .i64 r.f0, .int .i64 r.f1, .int .i64 r.f2, .slice B7 r.f3.length d7] 44 (0, 0))).drew from below_drew (below_alloc B4_.out _))
          have N5 := Aside0.mk (show ((w4.alloc (.cells #[.int .i64 r.f0, .int .i64 r.f1, .int .i64 r.f2, .slice B7 r.f3.length d7] 44 (0, 0))).drew).heap[w.heap.size]? = some (.cells #[.slice A0 l0.length c0, .slice (some ad) l1.length c1, .int .i64 a0] 25 (0, 0)) from blk_alloc N4.out _)
          have R5 := Aside0.mk (show ((w4.alloc (.cells #[.int .i64 r.f0, .int .i64 r.f1, .int .i64 r.f2, .slice B7 r.f3.length d7] 44 (0, 0))).drew).heap[w4.heap.size]? = some (.cells #[.int .i64 r.f0, .int .i64 r.f1, .int .i64 r.f2, .slice B7 r.f3.length d7] 44 (0, 0)) from blk_new w4 _)
          clear p0 p1 p2 q1 q3 q4 r0 r1 r2 r3 N4 B4_ hQ hQa hQb hQ0 hQ1 hQi hQl ct1 ct2 ct3 Q3
          generalize (w4.alloc (.cells #[.int .i64 r.f0, .int .i64 r.f1, .int .i64 r.f2, .slice B7 r.f3.length d7] 44 (0, 0))).drew = w5 at B5 N5 R5 ⊢
          generalize w4.heap.size = bR at R5 ⊢
          have p0 := (blk_cell N5.out 0).trans rfl
          have p1 := (blk_cell N5.out 1).trans rfl
          have p2 := (blk_cell N5.out 2).trans rfl
          have r3 := (blk_cell R5.out 3).trans rfl
          obtain ⟨L, hL, hLn, hLg⟩ := CSQ.out
          clear CSQ
          have CS := Aside0.mk (config_Spread.calls k A0 c0 l0 (some ad) c1 l1 a0 G 7 a3 a4 B7 d7 r.f3 L w5 (Kd.C_below H0.out.1 B5.out) H0.out.2 (Kd.C_below H1.out.1 B5.out) H1.out.2 (Kd.C_below H7.out.2 B5.out) H7.out.1 hL)
          have HLG := Aside0.mk hLg
          have HLN := Aside0.mk hLn
          clear hL hLg hLn
          go_upto_region 14 with (go_at_call 16; (with_reducible refine CS.out.mono ?_); rintro _ w6 ⟨v, rfl, ho, hb⟩; obtain ⟨AL, cL, rfl⟩ := Kd.R_slice ho; have OL := Aside0.mk (Kd.R_reads' ho); have B6 := Aside0.mk (below_step B5.out hb); have N6 := Aside0.mk (blk_below N5.out hb); clear ho hb)
          clear p0 p1 p2 r3 CS R5
          go_wp2
          go_loopw [18] (fun v18 wr => ∃ i : Nat, i ≤ L.length ∧ v18 = .int .i64 i ∧ Aside0 (Below w6.heap.size w6 wr)) (fun i _ => L.length - (intOf i).toNat)
          case atStart => exact ⟨0, by omega, rfl, ⟨Below.refl _ _⟩⟩
          case round =>
            obtain ⟨i, hi, rfl, E1⟩ := hrel
            have EW := Aside0.mk (below_step B6.out E1.out)
            have hi0 : (0 : Int) ≤ (i : Int) := by omega
            have hii : ((i : Int)).toNat = i := Int.toNat_natCast i
            have hLN : (L.length : Int) ≤ 1000 := by have := HLN.out; omega
            by_cases hlt : i < L.length
            · have hlt1 : (i : Int) < (L.length : Int) := by omega
              obtain ⟨am, cs, rfl, hcl, hK, hcell⟩ := clCells OL.out.2.2 (clGet (z := z48) hlt)
              obtain ⟨g1, g2, g3, g4, g5, R, g6, g7⟩ := HLG.out i hlt
              generalize hm' : L.getD i z48 = m' at hK g1 g2 g3 g4 g5 g6 g7
              clear hm'
              obtain rfl := k48_open hK
              have m0 : w6.cell? (am.add (i * 6)) = some (.int .i64 m'.f0.f0) := by exact hcell 0 _ rfl
              have m1 : w6.cell? ⟨(am.add (i * 6)).block, (am.add (i * 6)).off + 1, none⟩ = some (.int .i64 m'.f0.f1) := by have := hcell 1 _ rfl; rwa [add_field _ _ 1 (by omega)] at this
              have m2 : w6.cell? ⟨(am.add (i * 6)).block, (am.add (i * 6)).off + 2, none⟩ = some (.int .i64 m'.f0.f2) := by have := hcell 2 _ rfl; rwa [add_field _ _ 2 (by omega)] at this
              have m3 : w6.cell? ⟨(am.add (i * 6)).block, (am.add (i * 6)).off + 3, none⟩ = some (.int .i64 m'.f1) := by have := hcell 3 _ rfl; rwa [add_field _ _ 3 (by omega)] at this
              have m4 : w6.cell? ⟨(am.add (i * 6)).block, (am.add (i * 6)).off + 4, none⟩ = some (.int .i64 m'.f2) := by have := hcell 4 _ rfl; rwa [add_field _ _ 4 (by omega)] at this
              clear hcell hcl hK
              have NR := blk_below N6.out E1.out
              have p0 := (blk_cell NR 0).trans rfl
              have p1 := (blk_cell NR 1).trans rfl
              have p2 := (blk_cell NR 2).trans rfl
              have q1 := pw_cell_below EW.out Q1.out
              have q4 := pw_cell_below EW.out Q4.out
              replace m0 := pw_cell_below E1.out m0
              replace m1 := pw_cell_below E1.out m1
              replace m2 := pw_cell_below E1.out m2
              replace m3 := pw_cell_below E1.out m3
              replace m4 := pw_cell_below E1.out m4
              have KP0 := Aside0.mk p0
              have KP1 := Aside0.mk p1
              have KP2 := Aside0.mk p2
              have KQ1 := Aside0.mk q1
              have KQ4 := Aside0.mk q4
              have KM0 := Aside0.mk m0
              have KM1 := Aside0.mk m1
              have KM2 := Aside0.mk m2
              have KM3 := Aside0.mk m3
              have KM4 := Aside0.mk m4
              have CH1 := Aside0.mk (fun W (hW : Below wr.heap.size wr W) => pacelineref05_Has.calls k B4 d4 x.f4 m'.f2 true W (Kd.C_below H4.out.2 (below_step EW.out hW)) H4.out.1 g5)
              have CR1 := Aside0.mk (fun W (hW : Below wr.heap.size wr W) => pacelineref08_Routes.calls k A0 c0 l0 (some ad) c1 l1 a0 G m'.f2 R W (Kd.C_below H0.out.1 (below_step EW.out hW)) H0.out.2 (Kd.C_below H1.out.1 (below_step EW.out hW)) H1.out.2 g6)
              have CH2 := Aside0.mk (fun A c W (h1 : Kd.C (Kd.int .i64) W A R.length R) (h2 : R.length ≤ c) => pacelineref05_Has.calls k A c R m'.f1 true W h1 h2 g7)
              have hw1 : IntKind.i64.wrap (a3 + x.f1) = a3 + x.f1 := clWrap _ (by omega) (by omega)
              have hw2 : IntKind.i64.wrap a3 = a3 := clWrap _ (by omega) (by omega)
              have ct1 : decide (m'.f0.f0 < a3 + x.f1) = false := decide_eq_false (by omega)
              have ct2 : (m'.f1 == (G : Int)) = false := beq_eq_false_iff_ne.mpr g2
              have ct3 : (m'.f0.f1 != (G : Int)) = false := by rw [g3]; simp
              have ct5 : decide (m'.f0.f2 < 7) = false := decide_eq_false (by omega)
              have KB := Aside0.mk (below_drew (Below.refl wr.heap.size wr))
              clear g1 g2 g3 g4 g5 g6 g7 NR
              go_upto_region 17 with (fail)
              simp only [clAppC, clAppN]
              go_region_held3 (fun w' => w'.cell? ⟨w.heap.size, 0, none⟩ = some (.slice A0 l0.length c0) ∧ w'.cell? ⟨w.heap.size, 1, none⟩ = some (.slice (some ad) l1.length c1) ∧ w'.cell? ⟨w.heap.size, 2, none⟩ = some (.int .i64 a0) ∧ w'.cell? ⟨(ad.add (G * 7)).block, (ad.add (G * 7)).off + 1, none⟩ = some (.int .i64 x.f1) ∧ w'.cell? ⟨(ad.add (G * 7)).block, (ad.add (G * 7)).off + 4, none⟩ = some (.slice B4 x.f4.length d4) ∧ w'.cell? (am.add (i * 6)) = some (.int .i64 m'.f0.f0) ∧ w'.cell? ⟨(am.add (i * 6)).block, (am.add (i * 6)).off + 1, none⟩ = some (.int .i64 m'.f0.f1) ∧ w'.cell? ⟨(am.add (i * 6)).block, (am.add (i * 6)).off + 2, none⟩ = some (.int .i64 m'.f0.f2) ∧ w'.cell? ⟨(am.add (i * 6)).block, (am.add (i * 6)).off + 3, none⟩ = some (.int .i64 m'.f1) ∧ w'.cell? ⟨(am.add (i * 6)).block, (am.add (i * 6)).off + 4, none⟩ = some (.int .i64 m'.f2)) (go_keep) (first | (go_at_call 20; (with_reducible refine (CH1.out _ KB.out).mono ?_); rintro _ w7 ⟨rfl, hb⟩; have F7 := Aside0.mk (below_step KB.out hb.below); clear hb; have p0_F7 := pw_cell_below F7.out KP0.out; have p1_F7 := pw_cell_below F7.out KP1.out; have p2_F7 := pw_cell_below F7.out KP2.out; have q1_F7 := pw_cell_below F7.out KQ1.out; have q4_F7 := pw_cell_below F7.out KQ4.out; have m0_F7 := pw_cell_below F7.out KM0.out; have m1_F7 := pw_cell_below F7.out KM1.out; have m2_F7 := pw_cell_below F7.out KM2.out; have m3_F7 := pw_cell_below F7.out KM3.out; have m4_F7 := pw_cell_below F7.out KM4.out) | (go_at_call 14; (with_reducible refine (CR1.out _ F7.out).mono ?_); rintro _ w8 ⟨v, rfl, ho, hb⟩; obtain ⟨AR, cR, rfl⟩ := Kd.R_slice ho; have OR := Aside0.mk (Kd.R_reads' ho); have F8 := Aside0.mk (below_step F7.out hb); clear ho hb; have p0_F8 := pw_cell_below F8.out KP0.out; have p1_F8 := pw_cell_below F8.out KP1.out; have p2_F8 := pw_cell_below F8.out KP2.out; have q1_F8 := pw_cell_below F8.out KQ1.out; have q4_F8 := pw_cell_below F8.out KQ4.out; have m0_F8 := pw_cell_below F8.out KM0.out; have m1_F8 := pw_cell_below F8.out KM1.out; have m2_F8 := pw_cell_below F8.out KM2.out; have m3_F8 := pw_cell_below F8.out KM3.out; have m4_F8 := pw_cell_below F8.out KM4.out) | (go_at_call 20; (with_reducible refine (CH2.out _ _ _ OR.out.2.2 OR.out.2.1).mono ?_); rintro _ w9 ⟨rfl, hb⟩; have F9 := Aside0.mk (below_step F8.out hb.below); clear hb; have p0_F9 := pw_cell_below F9.out KP0.out; have p1_F9 := pw_cell_below F9.out KP1.out; have p2_F9 := pw_cell_below F9.out KP2.out; have q1_F9 := pw_cell_below F9.out KQ1.out; have q4_F9 := pw_cell_below F9.out KQ4.out; have m0_F9 := pw_cell_below F9.out KM0.out; have m1_F9 := pw_cell_below F9.out KM1.out; have m2_F9 := pw_cell_below F9.out KM2.out; have m3_F9 := pw_cell_below F9.out KM3.out; have m4_F9 := pw_cell_below F9.out KM4.out))
              go_wp2
              go_roundw
              case rel => exact ⟨i + 1, by omega, by go_num, ⟨below_step E1.out F9.out⟩⟩
              case measure => simp [intOf]; omega
            · have hlt1 : ¬ (i : Int) < (L.length : Int) := by omega
              go_wp2
              go_ret
              exact ⟨rfl, EW.out⟩
      · have e1 : (e != 0) = true := bne_iff_ne.mpr he
        have e2 : (e == 0) = false := beq_eq_false_iff_ne.mpr he
        clear E3 he
        go_enter Try.func5, Try.ntmps5
        go_wp2_with (first | (go_at_call 9; (with_reducible refine CH.out.mono ?_); rintro _ w1 ⟨rfl, hb⟩; have B1 := Aside0.mk (below_step BA.out hb); have N1 := Aside0.mk (blk_below BN.out hb); clear hb; have p0 := (blk_cell N1.out 0).trans rfl; have p1 := (blk_cell N1.out 1).trans rfl; have p2 := (blk_cell N1.out 2).trans rfl) | (go_at_call 10; (with_reducible refine (CK1.out _ B1.out).mono ?_); rintro _ w2 ⟨rfl, hb⟩; have B2 := Aside0.mk (below_step B1.out hb); have N2 := Aside0.mk (blk_below N1.out hb); clear hb; replace p0 := (blk_cell N2.out 0).trans rfl; replace p1 := (blk_cell N2.out 1).trans rfl; replace p2 := (blk_cell N2.out 2).trans rfl) | (go_at_call 11; (with_reducible refine (CK3.out _ B2.out).mono ?_); rintro _ w3 ⟨rfl, hb⟩; have B3 := Aside0.mk (below_step B2.out hb); have N3 := Aside0.mk (blk_below N2.out hb); clear hb; replace p0 := (blk_cell N3.out 0).trans rfl; replace p1 := (blk_cell N3.out 1).trans rfl; replace p2 := (blk_cell N3.out 2).trans rfl) | (go_at_call 12; (with_reducible refine (CSh.out _).mono ?_); rintro _ w4 ⟨rfl, hb⟩; have B4_ := Aside0.mk (below_step B3.out hb); have N4 := Aside0.mk (blk_below N3.out hb); clear hb; replace p0 := (blk_cell N4.out 0).trans rfl; replace p1 := (blk_cell N4.out 1).trans rfl; replace p2 := (blk_cell N4.out 2).trans rfl))
        go_ret
        exact ⟨rfl, B4_.out⟩
  · cases h


/-- THE ONE PURE STATEMENT of pacelinelaw08_ConfigLater. -/
def pacelinelaw08_ConfigLater.Pure : Prop := ∀ (l0_0 : List Int) (l0_1 : List (S42)) (a0_2 : Int) (a1 : Int) (a2 : Int) (a3 : Int) (a4 : Int), OkAll (fun n_ => (Lit.int .i64 n_).wf = true) l0_0 → OkAll (ok42) l0_1 → (Lit.int .i64 a0_2).wf = true → (Lit.int .u8 a1).wf = true → (Lit.int .u8 a2).wf = true → (Lit.int .u32 a3).wf = true → (Lit.int .u16 a4).wf = true → ∃ k, pacelinelaw08_ConfigLater.f k l0_0 l0_1 a0_2 a1 a2 a3 a4 = some true
end Go.Proofs.Ytdlagficilbbbaa.PConfigLater
