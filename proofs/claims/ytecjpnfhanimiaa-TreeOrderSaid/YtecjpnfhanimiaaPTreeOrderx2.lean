-- Written by gp.py (this project's driver over the kit's print) out of the translation and wip/given; Lean checks it.
import Derived.Test.YtecjpnfhanimiaaPTreeOrderx0
import Derived.Test.YtecjpnfhanimiaaPTreeOrderx1
namespace Go.Proofs.Ytecjpnfhanimiaa.PTreeOrder
open Go.RowKit Go.Proofs.YtecjpnfhanimiaaR Go.Proofs.YtecjpnfhanimiaaW.PrintWords Go.Proofs.YtecjpnfhanimiaaW.PrintLast Go.Proofs.YtecjpnfhanimiaaW.PrintMore
attribute [local go_sem] max2_int min2_int max_two min_two max_three min_three max_four min_four   -- for this text's walks alone
set_option linter.unusedVariables false
set_option linter.unusedSimpArgs false

/-! ### pacelineref05_Has: function 20 -/
def pacelineref05_Has.l0 : Nat → List Int → Int → Int → Option (Bool)
  | 0, _, _, _ => none
  | k + 1, x0, x1, x5 => if x5 < (x0.length : Int) then (if 0 ≤ x5 then (if (rd x0 x5) = x1 then (some true) else (pacelineref05_Has.l0 k x0 x1 (wrap64 (x5 + 1)))) else (none)) else (some false)
def pacelineref05_Has.f (k : Nat) (l0 : List Int) (a1 : Int) : Option (Bool) := pacelineref05_Has.l0 k l0 a1 0
theorem pacelineref05_Has.mono_l : ∀ k, (∀ y0 y1 y2, LeO (pacelineref05_Has.l0 k y0 y1 y2) (pacelineref05_Has.l0 (k + 1) y0 y1 y2))
  | 0 => fun _ _ _ r h => by simp [pacelineref05_Has.l0] at h
  | k + 1 => by
    have ih0 := pacelineref05_Has.mono_l k
    · intro y0 y1 y2
      unfold pacelineref05_Has.l0
      repeat' first
      | (with_reducible exact ih0 _ _ _)
      | (with_reducible exact LeO.refl _)
      | (with_reducible exact LeO.none _)
      | (with_reducible refine LeO.ite ?_ ?_)
      | (with_reducible refine LeO.bind ?_ (fun _ => ?_))
      | exact ih0 _ _ _
      | exact LeO.none _
      | refine LeO.ite ?_ ?_
      | refine LeO.bind ?_ (fun _ => ?_)
theorem pacelineref05_Has.mono : ∀ a0 a1 k, LeO (pacelineref05_Has.f k a0 a1) (pacelineref05_Has.f (k + 1) a0 a1) := by
  intro a0 a1 k
  have ih0 := pacelineref05_Has.mono_l k
  unfold pacelineref05_Has.f
  repeat' first
      | (with_reducible exact ih0 _ _ _)
      | (with_reducible exact LeO.refl _)
      | (with_reducible exact LeO.none _)
      | (with_reducible refine LeO.ite ?_ ?_)
      | (with_reducible refine LeO.bind ?_ (fun _ => ?_))
      | exact ih0 _ _ _
      | exact LeO.none _
      | refine LeO.ite ?_ ?_
      | refine LeO.bind ?_ (fun _ => ?_)
set_option maxHeartbeats 8000000 in
set_option maxRecDepth 100000 in
theorem pacelineref05_Has.calls (k : Nat) (A0 : Option Addr) (c0 : Nat) (l0 : List Int) (a1 : Int) (r : Bool) (w : World) (hr0 : Kd.C (Kd.int .i64) w A0 l0.length l0) (hc0 : l0.length ≤ c0) (h : pacelineref05_Has.f k l0 a1 = some r) :
    Calls Try.prog 20 #[.slice A0 l0.length c0, .int .i64 a1] w fun e w' => e = .returned (.bool r) ∧ Drawn0 w w' := by
  have HR0 := Aside0.mk hr0
  have HC0 := Aside0.mk hc0
  clear hr0 hc0
  have H : (pacelineref05_Has.l0 k l0 a1 0) = some r := h
  clear h
  have H' := Aside0.mk H
  clear H
  go_enter Try.func20, Try.ntmps20
  go_wp2
  go_loopg [5] k (fun kq v5 w' => ∃ (x5_1 : Int), v5 = .int .i64 x5_1 ∧ Aside0 (pacelineref05_Has.l0 kq l0 a1 x5_1 = some r) ∧ Aside0 (kq ≤ k) ∧ Drawn0 w w')
  case atStart => exact ⟨(0), (by first | rfl | (simp; done) | (simp [*]; done)), H', ⟨Nat.le_refl _⟩, by repeat (first | exact Drawn0.refl _ | apply Drawn0.step)⟩
  case round =>
    clear H'
    try clear c2
    try clear p2
    obtain ⟨x5_1, rfl, HA, HK1, ⟨m1, rfl⟩⟩ := hrel
    cases gk with
    | zero => exact absurd HA.out (by simp [pacelineref05_Has.l0])
    | succ k1 =>
      have H := HA.out
      clear HA
      simp only [pacelineref05_Has.l0] at H
      by_cases c3 : x5_1 < (l0.length : Int)
      · rw [if_pos c3] at H
        have c3b0 : decide (x5_1 < (l0.length : Int)) = true := decide_eq_true c3
        clear c3
        by_cases c4 : 0 ≤ x5_1
        · rw [if_pos c4] at H
          have c4b0 : decide (0 ≤ x5_1) = true := decide_eq_true c4
          clear c4
          by_cases c5 : (rd l0 x5_1) = a1
          · rw [if_pos c5] at H
            have c5b0 : ((rd l0 x5_1) == a1) = true := beq_iff_eq.mpr c5
            have c5b1 : ((rd l0 x5_1) != a1) = false := bne_eq_false_iff_eq.mpr c5
            clear c5
            obtain rfl := Option.some.inj H
            have p125 : 0 ≤ (x5_1 : Int) := of_decide_eq_true (by first | (with_reducible assumption) | assumption)
            have q125 : x5_1 < (l0.length : Int) := of_decide_eq_true (by first | (with_reducible assumption) | assumption)
            obtain ⟨ad125, e125, hx125_0⟩ := Kd.at_int HR0.out x5_1 p125 q125
            cases e125
            replace p125 := eq_true p125
            replace q125 := eq_true q125
            go_wp2
            go_ret
            exact ⟨by first | rfl | (simp; done) | (simp [*]; done), by repeat (first | exact Drawn0.refl _ | apply Drawn0.step)⟩
          · rw [if_neg c5] at H
            have c5b0 : ((rd l0 x5_1) == a1) = false := beq_eq_false_iff_ne.mpr c5
            have c5b1 : ((rd l0 x5_1) != a1) = true := bne_iff_ne.mpr c5
            have H' := Aside0.mk H
            clear H
            have p125 : 0 ≤ (x5_1 : Int) := of_decide_eq_true (by first | (with_reducible assumption) | assumption)
            have q125 : x5_1 < (l0.length : Int) := of_decide_eq_true (by first | (with_reducible assumption) | assumption)
            obtain ⟨ad125, e125, hx125_0⟩ := Kd.at_int HR0.out x5_1 p125 q125
            cases e125
            replace p125 := eq_true p125
            replace q125 := eq_true q125
            go_wp2
            go_roundg k1
            case measure => have := HK1.out; omega
            case rel => exact ⟨(wrap64 (x5_1 + 1)), (by first | rfl | (simp; done) | (simp [*]; done)), H', ⟨by have := HK1.out; omega⟩, by repeat (first | exact Drawn0.refl _ | apply Drawn0.step)⟩
        · rw [if_neg c4] at H
          exact absurd H (by simp)
      · rw [if_neg c3] at H
        have c3b0 : decide (x5_1 < (l0.length : Int)) = false := decide_eq_false c3
        clear c3
        obtain rfl := Option.some.inj H
        go_wp2
        go_ret
        exact ⟨by first | rfl | (simp; done) | (simp [*]; done), by repeat (first | exact Drawn0.refl _ | apply Drawn0.step)⟩

/-! ### pacelineref05_IsA: function 13 -/
def pacelineref05_IsA.f (k : Nat) (l0 : List Int) (a1 : Int) (a2 : Int) : Option (Bool) := (pacelineref05_Above.f k l0 a1).bind fun t126 => ((pacelineref05_Has.f k t126 a2).bind fun t129 => (some t129))
theorem pacelineref05_IsA.mono : ∀ a0 a1 a2 k, LeO (pacelineref05_IsA.f k a0 a1 a2) (pacelineref05_IsA.f (k + 1) a0 a1 a2) := by
  intro a0 a1 a2 k
  unfold pacelineref05_IsA.f
  repeat' first
      | (with_reducible exact pacelineref05_Above.mono _ _ _)
      | (with_reducible exact pacelineref05_Has.mono _ _ _)
      | (with_reducible exact LeO.refl _)
      | (with_reducible exact LeO.none _)
      | (with_reducible refine LeO.ite ?_ ?_)
      | (with_reducible refine LeO.bind ?_ (fun _ => ?_))
      | exact pacelineref05_Above.mono _ _ _
      | exact pacelineref05_Has.mono _ _ _
      | exact LeO.none _
      | refine LeO.ite ?_ ?_
      | refine LeO.bind ?_ (fun _ => ?_)
set_option maxHeartbeats 8000000 in
set_option maxRecDepth 100000 in
theorem pacelineref05_IsA.calls (k : Nat) (A0 : Option Addr) (c0 : Nat) (l0 : List Int) (a1 : Int) (a2 : Int) (r : Bool) (w : World) (hr0 : Kd.C (Kd.int .i64) w A0 l0.length l0) (hc0 : l0.length ≤ c0) (h : pacelineref05_IsA.f k l0 a1 a2 = some r) :
    Calls Try.prog 13 #[.slice A0 l0.length c0, .int .i64 a1, .int .i64 a2] w fun e w' => e = .returned (.bool r) ∧ Below w.heap.size w w' := by
  have HR0 := Aside0.mk hr0
  have HC0 := Aside0.mk hc0
  clear hr0 hc0
  have HB := Aside0.mk (Below.refl w.heap.size w)
  have H : ((pacelineref05_Above.f k l0 a1).bind fun t126 => ((pacelineref05_Has.f k t126 a2).bind fun t129 => (some t129))) = some r := h
  clear h
  replace H := Option.bind_eq_some_iff.mp H
  obtain ⟨t126, A40, H⟩ := H
  replace H : ((pacelineref05_Has.f k t126 a2).bind fun t129 => (some t129)) = some r := H
  have A4 := Aside0.mk A40
  clear A40
  replace H := Option.bind_eq_some_iff.mp H
  obtain ⟨t129, A50, H⟩ := H
  replace H : (some t129) = some r := H
  have A5 := Aside0.mk A50
  clear A50
  obtain rfl := Option.some.inj H
  go_enter Try.func13, Try.ntmps13
  go_wp2_with (first | ((with_reducible refine gate_callee (f := 18) rfl ?_); refine goesL_ (some 9) rfl rfl Try.func18 (by kernel_rfl) rfl #[.slice A0 l0.length c0, .int .i64 a1] rfl (by (try simp only [List.map_toArray, List.map_cons, List.map_nil]); first | done | rfl | (simp only [List.length_drop, List.length_take]; rfl)) ?_; (with_reducible refine (pacelineref05_Above.calls k _ _ l0 a1 t126 _ ?side1 ?side2 A4.out).mono ?_); (case side1 => repeat (first | exact HR0.out | (with_reducible refine Kd.C_alloc ?_ _) | (with_reducible refine Kd.C_drewN ?_ _) | (with_reducible refine Kd.C_drew ?_))); (case side2 => exact HC0.out); rintro e w6 ⟨v127, rfl, ho0, hb⟩; refine ⟨_, rfl, ?_⟩; have n0_ := Aside0.mk (Kd.R_lower ho0 (below_size (by repeat (first | (with_reducible first | exact HB.out | apply below_alloc | apply pw_below_drewN | apply below_drew1) | exact HB.out)))); have n1_ := Aside0.mk (below_step (by repeat (first | (with_reducible first | exact HB.out | apply below_alloc | apply pw_below_drewN | apply below_drew1) | exact HB.out)) hb); clear HB; have HO128 := n0_; have HB := n1_; clear n0_ n1_; (try clear hb); (try clear hb2); (try clear hk); (try clear hi); (try clear ho0); obtain ⟨Ao7, co7, eo7⟩ := Kd.R_slice HO128.out; subst eo7) | ((with_reducible refine gate_callee (f := 20) rfl ?_); refine goesL_ (some 11) rfl rfl Try.func20 (by kernel_rfl) rfl #[.slice Ao7 t126.length co7, .int .i64 a2] rfl (by (try simp only [List.map_toArray, List.map_cons, List.map_nil]); first | done | rfl | (simp only [List.length_drop, List.length_take]; rfl)) ?_; (with_reducible refine (pacelineref05_Has.calls k _ _ t126 a2 t129 _ ?side1 ?side2 A5.out).mono ?_); (case side1 => repeat (first | exact (Kd.R_reads' HO128.out).2.2 | (with_reducible refine Kd.C_alloc ?_ _) | (with_reducible refine Kd.C_drewN ?_ _) | (with_reducible refine Kd.C_drew ?_))); (case side2 => exact (Kd.R_reads' HO128.out).2.1); rintro e w' ⟨rfl, ⟨nd, rfl⟩⟩; refine ⟨_, rfl, ?_⟩))
  go_ret
  exact ⟨by first | rfl | (simp [errW_none, errW_some] <;> rfl) | (simp [*, errW_none, errW_some] <;> rfl), by repeat (first | (with_reducible first | exact HB.out | apply below_alloc | apply pw_below_drewN | apply below_drew1) | exact HB.out)⟩

/-! ### pacelinelaw05_TreeOrder: function 3 -/
mutual
def pacelinelaw05_TreeOrder.j0 : Nat → List Int → Int → Int → Int → Bool → Bool → Option (Bool)
  | 0, _, _, _, _, _, _ => none
  | k + 1, x9, x10, x11, x12, x13, x52 => if x52 = true then (some false) else (if x13 = true then ((tree_IsA.f x9 x11 x10).bind fun t137 => (if t137 = true then (pacelinelaw05_TreeOrder.j1 k x9 x10 x11 x12 x13 (x10 != x11)) else (pacelinelaw05_TreeOrder.j1 k x9 x10 x11 x12 x13 false))) else (pacelinelaw05_TreeOrder.j1 k x9 x10 x11 x12 x13 false))
def pacelinelaw05_TreeOrder.j1 : Nat → List Int → Int → Int → Int → Bool → Bool → Option (Bool)
  | 0, _, _, _, _, _, _ => none
  | k + 1, x9, x10, x11, x12, x13, x64 => if x64 = true then (some false) else (if x13 = true then ((tree_IsA.f x9 x11 x12).bind fun t138 => (if t138 = true then ((tree_IsA.f x9 x10 x12).bind fun t139 => (some t139)) else (some true))) else (some true))
end
def pacelinelaw05_TreeOrder.f (k : Nat) (l0 : List Int) (a1 : Int) (a2 : Int) (a3 : Int) : Option (Bool) := (pacelinelaw05_made.f k l0).bind fun t130 => (if (t130.length : Int) = 0 then (none) else ((tree_IsA.f t130 (Int.tmod (wrap64 (a1)) (t130.length : Int)) (Int.tmod (wrap64 (a2)) (t130.length : Int))).bind fun t133 => ((tree_Check.f k t130).bind fun t134 => (if t134 = 0 then ((tree_IsA.f t130 (Int.tmod (wrap64 (a1)) (t130.length : Int)) (Int.tmod (wrap64 (a1)) (t130.length : Int))).bind fun t135 => (if t135 = true then ((pacelineref05_IsA.f k t130 (Int.tmod (wrap64 (a1)) (t130.length : Int)) (Int.tmod (wrap64 (a2)) (t130.length : Int))).bind fun t136 => (pacelinelaw05_TreeOrder.j0 k t130 (Int.tmod (wrap64 (a1)) (t130.length : Int)) (Int.tmod (wrap64 (a2)) (t130.length : Int)) (Int.tmod (wrap64 (a3)) (t130.length : Int)) t133 (t133 != t136))) else (pacelinelaw05_TreeOrder.j0 k t130 (Int.tmod (wrap64 (a1)) (t130.length : Int)) (Int.tmod (wrap64 (a2)) (t130.length : Int)) (Int.tmod (wrap64 (a3)) (t130.length : Int)) t133 true))) else (pacelinelaw05_TreeOrder.j0 k t130 (Int.tmod (wrap64 (a1)) (t130.length : Int)) (Int.tmod (wrap64 (a2)) (t130.length : Int)) (Int.tmod (wrap64 (a3)) (t130.length : Int)) t133 true)))))
theorem pacelinelaw05_TreeOrder.mono_l : ∀ k, (∀ y0 y1 y2 y3 y4 y5, LeO (pacelinelaw05_TreeOrder.j0 k y0 y1 y2 y3 y4 y5) (pacelinelaw05_TreeOrder.j0 (k + 1) y0 y1 y2 y3 y4 y5)) ∧ (∀ y0 y1 y2 y3 y4 y5, LeO (pacelinelaw05_TreeOrder.j1 k y0 y1 y2 y3 y4 y5) (pacelinelaw05_TreeOrder.j1 (k + 1) y0 y1 y2 y3 y4 y5))
  | 0 => ⟨fun _ _ _ _ _ _ r h => by simp [pacelinelaw05_TreeOrder.j0] at h, fun _ _ _ _ _ _ r h => by simp [pacelinelaw05_TreeOrder.j1] at h⟩
  | k + 1 => by
    obtain ⟨ih0, ih1⟩ := pacelinelaw05_TreeOrder.mono_l k
    refine ⟨?_, ?_⟩
    · intro y0 y1 y2 y3 y4 y5
      unfold pacelinelaw05_TreeOrder.j0
      repeat' first
      | (with_reducible exact ih0 _ _ _ _ _ _)
      | (with_reducible exact ih1 _ _ _ _ _ _)
      | (with_reducible exact pacelinelaw05_made.mono _ _)
      | (with_reducible exact pacelineref05_IsA.mono _ _ _ _)
      | (with_reducible exact tree_Check.mono _ _)
      | (with_reducible exact LeO.refl _)
      | (with_reducible exact LeO.none _)
      | (with_reducible refine LeO.ite ?_ ?_)
      | (with_reducible refine LeO.bind ?_ (fun _ => ?_))
      | exact ih0 _ _ _ _ _ _
      | exact ih1 _ _ _ _ _ _
      | exact pacelinelaw05_made.mono _ _
      | exact pacelineref05_IsA.mono _ _ _ _
      | exact tree_Check.mono _ _
      | exact LeO.none _
      | refine LeO.ite ?_ ?_
      | refine LeO.bind ?_ (fun _ => ?_)
    · intro y0 y1 y2 y3 y4 y5
      unfold pacelinelaw05_TreeOrder.j1
      repeat' first
      | (with_reducible exact ih0 _ _ _ _ _ _)
      | (with_reducible exact ih1 _ _ _ _ _ _)
      | (with_reducible exact pacelinelaw05_made.mono _ _)
      | (with_reducible exact pacelineref05_IsA.mono _ _ _ _)
      | (with_reducible exact tree_Check.mono _ _)
      | (with_reducible exact LeO.refl _)
      | (with_reducible exact LeO.none _)
      | (with_reducible refine LeO.ite ?_ ?_)
      | (with_reducible refine LeO.bind ?_ (fun _ => ?_))
      | exact ih0 _ _ _ _ _ _
      | exact ih1 _ _ _ _ _ _
      | exact pacelinelaw05_made.mono _ _
      | exact pacelineref05_IsA.mono _ _ _ _
      | exact tree_Check.mono _ _
      | exact LeO.none _
      | refine LeO.ite ?_ ?_
      | refine LeO.bind ?_ (fun _ => ?_)
theorem pacelinelaw05_TreeOrder.mono : ∀ a0 a1 a2 a3 k, LeO (pacelinelaw05_TreeOrder.f k a0 a1 a2 a3) (pacelinelaw05_TreeOrder.f (k + 1) a0 a1 a2 a3) := by
  intro a0 a1 a2 a3 k
  obtain ⟨ih0, ih1⟩ := pacelinelaw05_TreeOrder.mono_l k
  unfold pacelinelaw05_TreeOrder.f
  repeat' first
      | (with_reducible exact ih0 _ _ _ _ _ _)
      | (with_reducible exact ih1 _ _ _ _ _ _)
      | (with_reducible exact pacelinelaw05_made.mono _ _)
      | (with_reducible exact pacelineref05_IsA.mono _ _ _ _)
      | (with_reducible exact tree_Check.mono _ _)
      | (with_reducible exact LeO.refl _)
      | (with_reducible exact LeO.none _)
      | (with_reducible refine LeO.ite ?_ ?_)
      | (with_reducible refine LeO.bind ?_ (fun _ => ?_))
      | exact ih0 _ _ _ _ _ _
      | exact ih1 _ _ _ _ _ _
      | exact pacelinelaw05_made.mono _ _
      | exact pacelineref05_IsA.mono _ _ _ _
      | exact tree_Check.mono _ _
      | exact LeO.none _
      | refine LeO.ite ?_ ?_
      | refine LeO.bind ?_ (fun _ => ?_)
set_option maxHeartbeats 8000000 in
set_option maxRecDepth 100000 in
theorem pacelinelaw05_TreeOrder.calls (k : Nat) (A0 : Option Addr) (c0 : Nat) (l0 : List Int) (a1 : Int) (a2 : Int) (a3 : Int) (r : Bool) (w : World) (hr0 : Kd.C (Kd.int .u8) w A0 l0.length l0) (hc0 : l0.length ≤ c0) (h : pacelinelaw05_TreeOrder.f k l0 a1 a2 a3 = some r) :
    Calls Try.prog 3 #[.slice A0 l0.length c0, .int .u8 a1, .int .u8 a2, .int .u8 a3] w fun e w' => e = .returned (.bool r) ∧ Below w.heap.size w w' := by
  have HR0 := Aside0.mk hr0
  have HC0 := Aside0.mk hc0
  clear hr0 hc0
  have HB := Aside0.mk (Below.refl w.heap.size w)
  have H : ((pacelinelaw05_made.f k l0).bind fun t130 => (if (t130.length : Int) = 0 then (none) else ((tree_IsA.f t130 (Int.tmod (wrap64 (a1)) (t130.length : Int)) (Int.tmod (wrap64 (a2)) (t130.length : Int))).bind fun t133 => ((tree_Check.f k t130).bind fun t134 => (if t134 = 0 then ((tree_IsA.f t130 (Int.tmod (wrap64 (a1)) (t130.length : Int)) (Int.tmod (wrap64 (a1)) (t130.length : Int))).bind fun t135 => (if t135 = true then ((pacelineref05_IsA.f k t130 (Int.tmod (wrap64 (a1)) (t130.length : Int)) (Int.tmod (wrap64 (a2)) (t130.length : Int))).bind fun t136 => (pacelinelaw05_TreeOrder.j0 k t130 (Int.tmod (wrap64 (a1)) (t130.length : Int)) (Int.tmod (wrap64 (a2)) (t130.length : Int)) (Int.tmod (wrap64 (a3)) (t130.length : Int)) t133 (t133 != t136))) else (pacelinelaw05_TreeOrder.j0 k t130 (Int.tmod (wrap64 (a1)) (t130.length : Int)) (Int.tmod (wrap64 (a2)) (t130.length : Int)) (Int.tmod (wrap64 (a3)) (t130.length : Int)) t133 true))) else (pacelinelaw05_TreeOrder.j0 k t130 (Int.tmod (wrap64 (a1)) (t130.length : Int)) (Int.tmod (wrap64 (a2)) (t130.length : Int)) (Int.tmod (wrap64 (a3)) (t130.length : Int)) t133 true)))))) = some r := h
  clear h
  replace H := Option.bind_eq_some_iff.mp H
  obtain ⟨t130, A50, H⟩ := H
  replace H : (if (t130.length : Int) = 0 then (none) else ((tree_IsA.f t130 (Int.tmod (wrap64 (a1)) (t130.length : Int)) (Int.tmod (wrap64 (a2)) (t130.length : Int))).bind fun t133 => ((tree_Check.f k t130).bind fun t134 => (if t134 = 0 then ((tree_IsA.f t130 (Int.tmod (wrap64 (a1)) (t130.length : Int)) (Int.tmod (wrap64 (a1)) (t130.length : Int))).bind fun t135 => (if t135 = true then ((pacelineref05_IsA.f k t130 (Int.tmod (wrap64 (a1)) (t130.length : Int)) (Int.tmod (wrap64 (a2)) (t130.length : Int))).bind fun t136 => (pacelinelaw05_TreeOrder.j0 k t130 (Int.tmod (wrap64 (a1)) (t130.length : Int)) (Int.tmod (wrap64 (a2)) (t130.length : Int)) (Int.tmod (wrap64 (a3)) (t130.length : Int)) t133 (t133 != t136))) else (pacelinelaw05_TreeOrder.j0 k t130 (Int.tmod (wrap64 (a1)) (t130.length : Int)) (Int.tmod (wrap64 (a2)) (t130.length : Int)) (Int.tmod (wrap64 (a3)) (t130.length : Int)) t133 true))) else (pacelinelaw05_TreeOrder.j0 k t130 (Int.tmod (wrap64 (a1)) (t130.length : Int)) (Int.tmod (wrap64 (a2)) (t130.length : Int)) (Int.tmod (wrap64 (a3)) (t130.length : Int)) t133 true))))) = some r := H
  have A5 := Aside0.mk A50
  clear A50
  by_cases c6 : (t130.length : Int) = 0
  · rw [if_pos c6] at H
    exact absurd H (by simp)
  · rw [if_neg c6] at H
    have c6b0 : ((t130.length : Int) == 0) = false := beq_eq_false_iff_ne.mpr c6
    have c6b1 : ((t130.length : Int) != 0) = true := bne_iff_ne.mpr c6
    have c6b2 : ¬ (t130 = []) := fun h_ => c6 (by rw [h_]; rfl)
    replace H := Option.bind_eq_some_iff.mp H
    obtain ⟨t133, A70, H⟩ := H
    replace H : ((tree_Check.f k t130).bind fun t134 => (if t134 = 0 then ((tree_IsA.f t130 (Int.tmod (wrap64 (a1)) (t130.length : Int)) (Int.tmod (wrap64 (a1)) (t130.length : Int))).bind fun t135 => (if t135 = true then ((pacelineref05_IsA.f k t130 (Int.tmod (wrap64 (a1)) (t130.length : Int)) (Int.tmod (wrap64 (a2)) (t130.length : Int))).bind fun t136 => (pacelinelaw05_TreeOrder.j0 k t130 (Int.tmod (wrap64 (a1)) (t130.length : Int)) (Int.tmod (wrap64 (a2)) (t130.length : Int)) (Int.tmod (wrap64 (a3)) (t130.length : Int)) t133 (t133 != t136))) else (pacelinelaw05_TreeOrder.j0 k t130 (Int.tmod (wrap64 (a1)) (t130.length : Int)) (Int.tmod (wrap64 (a2)) (t130.length : Int)) (Int.tmod (wrap64 (a3)) (t130.length : Int)) t133 true))) else (pacelinelaw05_TreeOrder.j0 k t130 (Int.tmod (wrap64 (a1)) (t130.length : Int)) (Int.tmod (wrap64 (a2)) (t130.length : Int)) (Int.tmod (wrap64 (a3)) (t130.length : Int)) t133 true))) = some r := H
    have A7 := Aside0.mk A70
    clear A70
    have HC8 := Aside0.mk H
    clear H
    go_enter Try.func3, Try.ntmps3
    go_upto_region 6 with (first | ((with_reducible refine gate_callee (f := 10) rfl ?_); refine goesL_ (some 15) rfl rfl Try.func10 (by kernel_rfl) rfl #[.slice A0 l0.length c0] rfl (by (try simp only [List.map_toArray, List.map_cons, List.map_nil]); first | done | rfl | (simp only [List.length_drop, List.length_take]; rfl)) ?_; (with_reducible refine (pacelinelaw05_made.calls k _ _ l0 t130 _ ?side1 ?side2 A5.out).mono ?_); (case side1 => repeat (first | exact HR0.out | (with_reducible refine Kd.C_alloc ?_ _) | (with_reducible refine Kd.C_drewN ?_ _) | (with_reducible refine Kd.C_drew ?_))); (case side2 => exact HC0.out); rintro e w9 ⟨v131, rfl, ho0, hb⟩; refine ⟨_, rfl, ?_⟩; have n0_ := Aside0.mk (Kd.R_lower ho0 (below_size (by repeat (first | (with_reducible first | exact HB.out | apply below_alloc | apply pw_below_drewN | apply below_drew1) | exact HB.out)))); have n1_ := Aside0.mk (below_step (by repeat (first | (with_reducible first | exact HB.out | apply below_alloc | apply pw_below_drewN | apply below_drew1) | exact HB.out)) hb); clear HB; have HO132 := n0_; have HB := n1_; clear n0_ n1_; (try clear hb); (try clear hb2); (try clear hk); (try clear hi); (try clear ho0); obtain ⟨Ao10, co10, eo10⟩ := Kd.R_slice HO132.out; subst eo10) | ((with_reducible refine gate_callee (f := 11) rfl ?_); refine goesL_ (some 34) rfl rfl Try.func11 (by kernel_rfl) rfl #[.slice Ao10 t130.length co10, .int .i64 (Int.tmod (wrap64 (a1)) (t130.length : Int)), .int .i64 (Int.tmod (wrap64 (a2)) (t130.length : Int))] rfl (by (try simp only [List.map_toArray, List.map_cons, List.map_nil]); first | done | rfl | (simp only [List.length_drop, List.length_take]; rfl)) ?_; (with_reducible refine (tree_IsA.calls _ _ t130 (Int.tmod (wrap64 (a1)) (t130.length : Int)) (Int.tmod (wrap64 (a2)) (t130.length : Int)) t133 _ ?side1 ?side2 A7.out).mono ?_); (case side1 => repeat (first | exact (Kd.R_reads' HO132.out).2.2 | (with_reducible refine Kd.C_alloc ?_ _) | (with_reducible refine Kd.C_drewN ?_ _) | (with_reducible refine Kd.C_drew ?_))); (case side2 => exact (Kd.R_reads' HO132.out).2.1); rintro e w11 ⟨rfl, hb⟩; refine ⟨_, rfl, ?_⟩; have n0_ := Aside0.mk (Kd.R_below (by (with_reducible repeat (first | apply Kd.R_alloc | apply Kd.R_drewN | apply Kd.R_drew)); exact HO132.out) hb); have n1_ := Aside0.mk (below_step (by repeat (first | (with_reducible first | exact HB.out | apply below_alloc | apply pw_below_drewN | apply below_drew1) | exact HB.out)) hb); clear HO132; clear HB; have HO132 := n0_; have HB := n1_; clear n0_ n1_; (try clear hb); (try clear hb2); (try clear hk); (try clear hi)))
    (try simp only [Act.put, List.setIfInBounds_toArray, List.set_cons_zero, List.set_cons_succ])
    go_cut [52] (fun v52 wc => ∃ (kq : Nat) (x52_7 : Bool), v52 = .bool x52_7 ∧ Aside0 (pacelinelaw05_TreeOrder.j0 kq t130 (Int.tmod (wrap64 (a1)) (t130.length : Int)) (Int.tmod (wrap64 (a2)) (t130.length : Int)) (Int.tmod (wrap64 (a3)) (t130.length : Int)) t133 x52_7 = some r) ∧ Aside0 (kq ≤ k) ∧ Aside0 (Kd.R (Kd.int .i64) 3 wc w.heap.size (fun _ => True) (.slice Ao10 t130.length co10) t130) ∧ Aside0 (Below w.heap.size w wc))
    case first =>
      have H := HC8.out
      clear HC8
      replace H := Option.bind_eq_some_iff.mp H
      obtain ⟨t134, A120, H⟩ := H
      replace H : (if t134 = 0 then ((tree_IsA.f t130 (Int.tmod (wrap64 (a1)) (t130.length : Int)) (Int.tmod (wrap64 (a1)) (t130.length : Int))).bind fun t135 => (if t135 = true then ((pacelineref05_IsA.f k t130 (Int.tmod (wrap64 (a1)) (t130.length : Int)) (Int.tmod (wrap64 (a2)) (t130.length : Int))).bind fun t136 => (pacelinelaw05_TreeOrder.j0 k t130 (Int.tmod (wrap64 (a1)) (t130.length : Int)) (Int.tmod (wrap64 (a2)) (t130.length : Int)) (Int.tmod (wrap64 (a3)) (t130.length : Int)) t133 (t133 != t136))) else (pacelinelaw05_TreeOrder.j0 k t130 (Int.tmod (wrap64 (a1)) (t130.length : Int)) (Int.tmod (wrap64 (a2)) (t130.length : Int)) (Int.tmod (wrap64 (a3)) (t130.length : Int)) t133 true))) else (pacelinelaw05_TreeOrder.j0 k t130 (Int.tmod (wrap64 (a1)) (t130.length : Int)) (Int.tmod (wrap64 (a2)) (t130.length : Int)) (Int.tmod (wrap64 (a3)) (t130.length : Int)) t133 true)) = some r := H
      have A12 := Aside0.mk A120
      clear A120
      by_cases c13 : t134 = 0
      · rw [if_pos c13] at H
        have c13b0 : (t134 == 0) = true := beq_iff_eq.mpr c13
        have c13b1 : (t134 != 0) = false := bne_eq_false_iff_eq.mpr c13
        clear c13
        (first | rw [c13b0] | (simp only [i64_w, i32_w]; rw [c13b0]) | skip)
        replace H := Option.bind_eq_some_iff.mp H
        obtain ⟨t135, A140, H⟩ := H
        replace H : (if t135 = true then ((pacelineref05_IsA.f k t130 (Int.tmod (wrap64 (a1)) (t130.length : Int)) (Int.tmod (wrap64 (a2)) (t130.length : Int))).bind fun t136 => (pacelinelaw05_TreeOrder.j0 k t130 (Int.tmod (wrap64 (a1)) (t130.length : Int)) (Int.tmod (wrap64 (a2)) (t130.length : Int)) (Int.tmod (wrap64 (a3)) (t130.length : Int)) t133 (t133 != t136))) else (pacelinelaw05_TreeOrder.j0 k t130 (Int.tmod (wrap64 (a1)) (t130.length : Int)) (Int.tmod (wrap64 (a2)) (t130.length : Int)) (Int.tmod (wrap64 (a3)) (t130.length : Int)) t133 true)) = some r := H
        have A14 := Aside0.mk A140
        clear A140
        by_cases c15 : t135 = true
        · subst c15
          have H1 : ((pacelineref05_IsA.f k t130 (Int.tmod (wrap64 (a1)) (t130.length : Int)) (Int.tmod (wrap64 (a2)) (t130.length : Int))).bind fun t136 => (pacelinelaw05_TreeOrder.j0 k t130 (Int.tmod (wrap64 (a1)) (t130.length : Int)) (Int.tmod (wrap64 (a2)) (t130.length : Int)) (Int.tmod (wrap64 (a3)) (t130.length : Int)) t133 (t133 != t136))) = some r := by rw [if_pos rfl] at H; exact H
          clear H
          have H := H1
          clear H1
          replace H := Option.bind_eq_some_iff.mp H
          obtain ⟨t136, A160, H⟩ := H
          replace H : (pacelinelaw05_TreeOrder.j0 k t130 (Int.tmod (wrap64 (a1)) (t130.length : Int)) (Int.tmod (wrap64 (a2)) (t130.length : Int)) (Int.tmod (wrap64 (a3)) (t130.length : Int)) t133 (t133 != t136)) = some r := H
          have A16 := Aside0.mk A160
          clear A160
          have H' := Aside0.mk H
          clear H
          go_wp2_with (first | ((with_reducible refine gate_callee (f := 12) rfl ?_); refine goesL_ (some 36) rfl rfl Try.func12 (by kernel_rfl) rfl #[.slice Ao10 t130.length co10] rfl (by (try simp only [List.map_toArray, List.map_cons, List.map_nil]); first | done | rfl | (simp only [List.length_drop, List.length_take]; rfl)) ?_; (with_reducible refine (tree_Check.calls k _ _ t130 t134 _ ?side1 ?side2 A12.out).mono ?_); (case side1 => repeat (first | exact (Kd.R_reads' HO132.out).2.2 | (with_reducible refine Kd.C_alloc ?_ _) | (with_reducible refine Kd.C_drewN ?_ _) | (with_reducible refine Kd.C_drew ?_))); (case side2 => exact (Kd.R_reads' HO132.out).2.1); rintro e w' ⟨rfl, ⟨nd, rfl⟩⟩; refine ⟨_, rfl, ?_⟩) | (go_at_call 11; (with_reducible refine (tree_IsA.calls _ _ t130 (Int.tmod (wrap64 (a1)) (t130.length : Int)) (Int.tmod (wrap64 (a1)) (t130.length : Int)) true _ ?side1 ?side2 A14.out).mono ?_); (case side1 => repeat (first | exact (Kd.R_reads' HO132.out).2.2 | (with_reducible refine Kd.C_alloc ?_ _) | (with_reducible refine Kd.C_drewN ?_ _) | (with_reducible refine Kd.C_drew ?_))); (case side2 => exact (Kd.R_reads' HO132.out).2.1); rintro e w17 ⟨rfl, hb⟩; have n0_ := Aside0.mk (Kd.R_below (by (with_reducible repeat (first | apply Kd.R_alloc | apply Kd.R_drewN | apply Kd.R_drew)); exact HO132.out) hb); have n1_ := Aside0.mk (below_step (by repeat (first | (with_reducible first | exact HB.out | apply below_alloc | apply pw_below_drewN | apply below_drew1) | exact HB.out)) hb); clear HO132; clear HB; have HO132 := n0_; have HB := n1_; clear n0_ n1_; (try clear hb); (try clear hb2); (try clear hk); (try clear hi)) | (go_at_call 13; (with_reducible refine (pacelineref05_IsA.calls k _ _ t130 (Int.tmod (wrap64 (a1)) (t130.length : Int)) (Int.tmod (wrap64 (a2)) (t130.length : Int)) t136 _ ?side1 ?side2 A16.out).mono ?_); (case side1 => repeat (first | exact (Kd.R_reads' HO132.out).2.2 | (with_reducible refine Kd.C_alloc ?_ _) | (with_reducible refine Kd.C_drewN ?_ _) | (with_reducible refine Kd.C_drew ?_))); (case side2 => exact (Kd.R_reads' HO132.out).2.1); rintro e w18 ⟨rfl, hb⟩; have n0_ := Aside0.mk (Kd.R_below (by (with_reducible repeat (first | apply Kd.R_alloc | apply Kd.R_drewN | apply Kd.R_drew)); exact HO132.out) hb); have n1_ := Aside0.mk (below_step (by repeat (first | (with_reducible first | exact HB.out | apply below_alloc | apply pw_below_drewN | apply below_drew1) | exact HB.out)) hb); clear HO132; clear HB; have HO132 := n0_; have HB := n1_; clear n0_ n1_; (try clear hb); (try clear hb2); (try clear hk); (try clear hi)))
          go_meet
          case rel => exact ⟨_, ((t133 != t136)), (by first | rfl | (simp; done) | (simp [*]; done)), H', ⟨by first | omega | exact Nat.le_refl _⟩, ⟨by (with_reducible repeat (first | apply Kd.R_alloc | apply Kd.R_drewN | apply Kd.R_drew)); exact HO132.out⟩, ⟨by repeat (first | (with_reducible first | exact HB.out | apply below_alloc | apply pw_below_drewN | apply below_drew1) | exact HB.out)⟩⟩
        · replace c15 := Bool.eq_false_iff.mpr c15
          subst c15
          have H1 : (pacelinelaw05_TreeOrder.j0 k t130 (Int.tmod (wrap64 (a1)) (t130.length : Int)) (Int.tmod (wrap64 (a2)) (t130.length : Int)) (Int.tmod (wrap64 (a3)) (t130.length : Int)) t133 true) = some r := by rw [if_neg (show ¬ (false = true) by decide)] at H; exact H
          clear H
          have H := H1
          clear H1
          have H' := Aside0.mk H
          clear H
          go_wp2_with (first | ((with_reducible refine gate_callee (f := 12) rfl ?_); refine goesL_ (some 36) rfl rfl Try.func12 (by kernel_rfl) rfl #[.slice Ao10 t130.length co10] rfl (by (try simp only [List.map_toArray, List.map_cons, List.map_nil]); first | done | rfl | (simp only [List.length_drop, List.length_take]; rfl)) ?_; (with_reducible refine (tree_Check.calls k _ _ t130 t134 _ ?side1 ?side2 A12.out).mono ?_); (case side1 => repeat (first | exact (Kd.R_reads' HO132.out).2.2 | (with_reducible refine Kd.C_alloc ?_ _) | (with_reducible refine Kd.C_drewN ?_ _) | (with_reducible refine Kd.C_drew ?_))); (case side2 => exact (Kd.R_reads' HO132.out).2.1); rintro e w' ⟨rfl, ⟨nd, rfl⟩⟩; refine ⟨_, rfl, ?_⟩) | (go_at_call 11; (with_reducible refine (tree_IsA.calls _ _ t130 (Int.tmod (wrap64 (a1)) (t130.length : Int)) (Int.tmod (wrap64 (a1)) (t130.length : Int)) false _ ?side1 ?side2 A14.out).mono ?_); (case side1 => repeat (first | exact (Kd.R_reads' HO132.out).2.2 | (with_reducible refine Kd.C_alloc ?_ _) | (with_reducible refine Kd.C_drewN ?_ _) | (with_reducible refine Kd.C_drew ?_))); (case side2 => exact (Kd.R_reads' HO132.out).2.1); rintro e w19 ⟨rfl, hb⟩; have n0_ := Aside0.mk (Kd.R_below (by (with_reducible repeat (first | apply Kd.R_alloc | apply Kd.R_drewN | apply Kd.R_drew)); exact HO132.out) hb); have n1_ := Aside0.mk (below_step (by repeat (first | (with_reducible first | exact HB.out | apply below_alloc | apply pw_below_drewN | apply below_drew1) | exact HB.out)) hb); clear HO132; clear HB; have HO132 := n0_; have HB := n1_; clear n0_ n1_; (try clear hb); (try clear hb2); (try clear hk); (try clear hi)))
          go_meet
          case rel => exact ⟨_, (true), (by first | rfl | (simp; done) | (simp [*]; done)), H', ⟨by first | omega | exact Nat.le_refl _⟩, ⟨by (with_reducible repeat (first | apply Kd.R_alloc | apply Kd.R_drewN | apply Kd.R_drew)); exact HO132.out⟩, ⟨by repeat (first | (with_reducible first | exact HB.out | apply below_alloc | apply pw_below_drewN | apply below_drew1) | exact HB.out)⟩⟩
      · rw [if_neg c13] at H
        have c13b0 : (t134 == 0) = false := beq_eq_false_iff_ne.mpr c13
        have c13b1 : (t134 != 0) = true := bne_iff_ne.mpr c13
        (first | rw [c13b0] | (simp only [i64_w, i32_w]; rw [c13b0]) | skip)
        have H' := Aside0.mk H
        clear H
        go_wp2_with (first | ((with_reducible refine gate_callee (f := 12) rfl ?_); refine goesL_ (some 36) rfl rfl Try.func12 (by kernel_rfl) rfl #[.slice Ao10 t130.length co10] rfl (by (try simp only [List.map_toArray, List.map_cons, List.map_nil]); first | done | rfl | (simp only [List.length_drop, List.length_take]; rfl)) ?_; (with_reducible refine (tree_Check.calls k _ _ t130 t134 _ ?side1 ?side2 A12.out).mono ?_); (case side1 => repeat (first | exact (Kd.R_reads' HO132.out).2.2 | (with_reducible refine Kd.C_alloc ?_ _) | (with_reducible refine Kd.C_drewN ?_ _) | (with_reducible refine Kd.C_drew ?_))); (case side2 => exact (Kd.R_reads' HO132.out).2.1); rintro e w' ⟨rfl, ⟨nd, rfl⟩⟩; refine ⟨_, rfl, ?_⟩))
        go_meet
        case rel => exact ⟨_, (true), (by first | rfl | (simp; done) | (simp [*]; done)), H', ⟨by first | omega | exact Nat.le_refl _⟩, ⟨by (with_reducible repeat (first | apply Kd.R_alloc | apply Kd.R_drewN | apply Kd.R_drew)); exact HO132.out⟩, ⟨by repeat (first | (with_reducible first | exact HB.out | apply below_alloc | apply pw_below_drewN | apply below_drew1) | exact HB.out)⟩⟩
    case rest =>
      clear HC8
      try clear c1
      try clear p2
      try clear c3
      try clear c6
      try clear c6b0
      try clear c6b1
      try clear c6b2
      try clear p6
      try clear c10
      try clear c11
      try clear c12
      try clear c13
      try clear c13b0
      try clear c13b1
      try clear c15
      obtain ⟨kq, x52_7, rfl, HA, HJ7, HO_9, HB⟩ := hcut
      cases kq with
      | zero => exact absurd HA.out (by simp [pacelinelaw05_TreeOrder.j0])
      | succ kj7 =>
        have H := HA.out
        clear HA
        simp only [pacelinelaw05_TreeOrder.j0] at H
        by_cases c20 : x52_7 = true
        · subst c20
          have H1 : (some false) = some r := by rw [if_pos rfl] at H; exact H
          clear H
          have H := H1
          clear H1
          obtain rfl := Option.some.inj H
          go_wp2
          go_ret
          exact ⟨by first | rfl | (simp [errW_none, errW_some] <;> rfl) | (simp [*, errW_none, errW_some] <;> rfl), by repeat (first | (with_reducible first | exact HB.out | apply below_alloc | apply pw_below_drewN | apply below_drew1) | exact HB.out)⟩
        · replace c20 := Bool.eq_false_iff.mpr c20
          subst c20
          have H1 : (if t133 = true then ((tree_IsA.f t130 (Int.tmod (wrap64 (a2)) (t130.length : Int)) (Int.tmod (wrap64 (a1)) (t130.length : Int))).bind fun t137 => (if t137 = true then (pacelinelaw05_TreeOrder.j1 kj7 t130 (Int.tmod (wrap64 (a1)) (t130.length : Int)) (Int.tmod (wrap64 (a2)) (t130.length : Int)) (Int.tmod (wrap64 (a3)) (t130.length : Int)) t133 ((Int.tmod (wrap64 (a1)) (t130.length : Int)) != (Int.tmod (wrap64 (a2)) (t130.length : Int)))) else (pacelinelaw05_TreeOrder.j1 kj7 t130 (Int.tmod (wrap64 (a1)) (t130.length : Int)) (Int.tmod (wrap64 (a2)) (t130.length : Int)) (Int.tmod (wrap64 (a3)) (t130.length : Int)) t133 false))) else (pacelinelaw05_TreeOrder.j1 kj7 t130 (Int.tmod (wrap64 (a1)) (t130.length : Int)) (Int.tmod (wrap64 (a2)) (t130.length : Int)) (Int.tmod (wrap64 (a3)) (t130.length : Int)) t133 false)) = some r := by rw [if_neg (show ¬ (false = true) by decide)] at H; exact H
          clear H
          have H := H1
          clear H1
          have HC21 := Aside0.mk H
          clear H
          go_upto_region 8 with (fail)
          go_cut [64] (fun v64 wc => ∃ (kq : Nat) (x64_20 : Bool), v64 = .bool x64_20 ∧ Aside0 (pacelinelaw05_TreeOrder.j1 kq t130 (Int.tmod (wrap64 (a1)) (t130.length : Int)) (Int.tmod (wrap64 (a2)) (t130.length : Int)) (Int.tmod (wrap64 (a3)) (t130.length : Int)) t133 x64_20 = some r) ∧ Aside0 (kq ≤ kj7) ∧ Aside0 (Kd.R (Kd.int .i64) 3 wc w.heap.size (fun _ => True) (.slice Ao10 t130.length co10) t130) ∧ Aside0 (Below w.heap.size w wc))
          case first =>
            have H := HC21.out
            clear HC21
            by_cases c22 : t133 = true
            · subst c22
              have H1 : ((tree_IsA.f t130 (Int.tmod (wrap64 (a2)) (t130.length : Int)) (Int.tmod (wrap64 (a1)) (t130.length : Int))).bind fun t137 => (if t137 = true then (pacelinelaw05_TreeOrder.j1 kj7 t130 (Int.tmod (wrap64 (a1)) (t130.length : Int)) (Int.tmod (wrap64 (a2)) (t130.length : Int)) (Int.tmod (wrap64 (a3)) (t130.length : Int)) true ((Int.tmod (wrap64 (a1)) (t130.length : Int)) != (Int.tmod (wrap64 (a2)) (t130.length : Int)))) else (pacelinelaw05_TreeOrder.j1 kj7 t130 (Int.tmod (wrap64 (a1)) (t130.length : Int)) (Int.tmod (wrap64 (a2)) (t130.length : Int)) (Int.tmod (wrap64 (a3)) (t130.length : Int)) true false))) = some r := by rw [if_pos rfl] at H; exact H
              clear H
              have H := H1
              clear H1
              replace H := Option.bind_eq_some_iff.mp H
              obtain ⟨t137, A230, H⟩ := H
              replace H : (if t137 = true then (pacelinelaw05_TreeOrder.j1 kj7 t130 (Int.tmod (wrap64 (a1)) (t130.length : Int)) (Int.tmod (wrap64 (a2)) (t130.length : Int)) (Int.tmod (wrap64 (a3)) (t130.length : Int)) true ((Int.tmod (wrap64 (a1)) (t130.length : Int)) != (Int.tmod (wrap64 (a2)) (t130.length : Int)))) else (pacelinelaw05_TreeOrder.j1 kj7 t130 (Int.tmod (wrap64 (a1)) (t130.length : Int)) (Int.tmod (wrap64 (a2)) (t130.length : Int)) (Int.tmod (wrap64 (a3)) (t130.length : Int)) true false)) = some r := H
              have A23 := Aside0.mk A230
              clear A230
              by_cases c24 : t137 = true
              · subst c24
                have H1 : (pacelinelaw05_TreeOrder.j1 kj7 t130 (Int.tmod (wrap64 (a1)) (t130.length : Int)) (Int.tmod (wrap64 (a2)) (t130.length : Int)) (Int.tmod (wrap64 (a3)) (t130.length : Int)) true ((Int.tmod (wrap64 (a1)) (t130.length : Int)) != (Int.tmod (wrap64 (a2)) (t130.length : Int)))) = some r := by rw [if_pos rfl] at H; exact H
                clear H
                have H := H1
                clear H1
                have H' := Aside0.mk H
                clear H
                go_wp2_with (first | (go_at_call 11; (with_reducible refine (tree_IsA.calls _ _ t130 (Int.tmod (wrap64 (a2)) (t130.length : Int)) (Int.tmod (wrap64 (a1)) (t130.length : Int)) true _ ?side1 ?side2 A23.out).mono ?_); (case side1 => repeat (first | exact (Kd.R_reads' HO_9.out).2.2 | (with_reducible refine Kd.C_alloc ?_ _) | (with_reducible refine Kd.C_drewN ?_ _) | (with_reducible refine Kd.C_drew ?_))); (case side2 => exact (Kd.R_reads' HO_9.out).2.1); rintro e w25 ⟨rfl, hb⟩; have n0_ := Aside0.mk (Kd.R_below (by (with_reducible repeat (first | apply Kd.R_alloc | apply Kd.R_drewN | apply Kd.R_drew)); exact HO_9.out) hb); have n1_ := Aside0.mk (below_step (by repeat (first | (with_reducible first | exact HB.out | apply below_alloc | apply pw_below_drewN | apply below_drew1) | exact HB.out)) hb); clear HO_9; clear HB; have HO_9 := n0_; have HB := n1_; clear n0_ n1_; (try clear hb); (try clear hb2); (try clear hk); (try clear hi)))
                go_meet
                case rel => exact ⟨_, (((Int.tmod (wrap64 (a1)) (t130.length : Int)) != (Int.tmod (wrap64 (a2)) (t130.length : Int)))), (by first | rfl | (simp; done) | (simp [*]; done)), H', ⟨by have := HJ7.out; first | omega | exact Nat.le_refl _⟩, ⟨by (with_reducible repeat (first | apply Kd.R_alloc | apply Kd.R_drewN | apply Kd.R_drew)); exact HO_9.out⟩, ⟨by repeat (first | (with_reducible first | exact HB.out | apply below_alloc | apply pw_below_drewN | apply below_drew1) | exact HB.out)⟩⟩
              · replace c24 := Bool.eq_false_iff.mpr c24
                subst c24
                have H1 : (pacelinelaw05_TreeOrder.j1 kj7 t130 (Int.tmod (wrap64 (a1)) (t130.length : Int)) (Int.tmod (wrap64 (a2)) (t130.length : Int)) (Int.tmod (wrap64 (a3)) (t130.length : Int)) true false) = some r := by rw [if_neg (show ¬ (false = true) by decide)] at H; exact H
                clear H
                have H := H1
                clear H1
                have H' := Aside0.mk H
                clear H
                go_wp2_with (first | (go_at_call 11; (with_reducible refine (tree_IsA.calls _ _ t130 (Int.tmod (wrap64 (a2)) (t130.length : Int)) (Int.tmod (wrap64 (a1)) (t130.length : Int)) false _ ?side1 ?side2 A23.out).mono ?_); (case side1 => repeat (first | exact (Kd.R_reads' HO_9.out).2.2 | (with_reducible refine Kd.C_alloc ?_ _) | (with_reducible refine Kd.C_drewN ?_ _) | (with_reducible refine Kd.C_drew ?_))); (case side2 => exact (Kd.R_reads' HO_9.out).2.1); rintro e w26 ⟨rfl, hb⟩; have n0_ := Aside0.mk (Kd.R_below (by (with_reducible repeat (first | apply Kd.R_alloc | apply Kd.R_drewN | apply Kd.R_drew)); exact HO_9.out) hb); have n1_ := Aside0.mk (below_step (by repeat (first | (with_reducible first | exact HB.out | apply below_alloc | apply pw_below_drewN | apply below_drew1) | exact HB.out)) hb); clear HO_9; clear HB; have HO_9 := n0_; have HB := n1_; clear n0_ n1_; (try clear hb); (try clear hb2); (try clear hk); (try clear hi)))
                go_meet
                case rel => exact ⟨_, (false), (by first | rfl | (simp; done) | (simp [*]; done)), H', ⟨by have := HJ7.out; first | omega | exact Nat.le_refl _⟩, ⟨by (with_reducible repeat (first | apply Kd.R_alloc | apply Kd.R_drewN | apply Kd.R_drew)); exact HO_9.out⟩, ⟨by repeat (first | (with_reducible first | exact HB.out | apply below_alloc | apply pw_below_drewN | apply below_drew1) | exact HB.out)⟩⟩
            · replace c22 := Bool.eq_false_iff.mpr c22
              subst c22
              have H1 : (pacelinelaw05_TreeOrder.j1 kj7 t130 (Int.tmod (wrap64 (a1)) (t130.length : Int)) (Int.tmod (wrap64 (a2)) (t130.length : Int)) (Int.tmod (wrap64 (a3)) (t130.length : Int)) false false) = some r := by rw [if_neg (show ¬ (false = true) by decide)] at H; exact H
              clear H
              have H := H1
              clear H1
              have H' := Aside0.mk H
              clear H
              go_wp2
              go_meet
              case rel => exact ⟨_, (false), (by first | rfl | (simp; done) | (simp [*]; done)), H', ⟨by have := HJ7.out; first | omega | exact Nat.le_refl _⟩, ⟨by (with_reducible repeat (first | apply Kd.R_alloc | apply Kd.R_drewN | apply Kd.R_drew)); exact HO_9.out⟩, ⟨by repeat (first | (with_reducible first | exact HB.out | apply below_alloc | apply pw_below_drewN | apply below_drew1) | exact HB.out)⟩⟩
          case rest =>
            clear HC21
            try clear c1
            try clear c2
            try clear p2
            try clear c3
            try clear c6
            try clear c6b0
            try clear c6b1
            try clear c6b2
            try clear p6
            try clear c10
            try clear c11
            try clear c12
            try clear c13
            try clear c13b0
            try clear c13b1
            try clear c15
            try clear c20
            try clear c22
            try clear c24
            try clear p2
            try clear p6
            obtain ⟨kq, x64_20, rfl, HA, HJ20, HO_9, HB⟩ := hcut
            cases kq with
            | zero => exact absurd HA.out (by simp [pacelinelaw05_TreeOrder.j1])
            | succ kj20 =>
              have H := HA.out
              clear HA
              simp only [pacelinelaw05_TreeOrder.j1] at H
              by_cases c27 : x64_20 = true
              · subst c27
                have H1 : (some false) = some r := by rw [if_pos rfl] at H; exact H
                clear H
                have H := H1
                clear H1
                obtain rfl := Option.some.inj H
                go_wp2
                go_ret
                exact ⟨by first | rfl | (simp [errW_none, errW_some] <;> rfl) | (simp [*, errW_none, errW_some] <;> rfl), by repeat (first | (with_reducible first | exact HB.out | apply below_alloc | apply pw_below_drewN | apply below_drew1) | exact HB.out)⟩
              · replace c27 := Bool.eq_false_iff.mpr c27
                subst c27
                have H1 : (if t133 = true then ((tree_IsA.f t130 (Int.tmod (wrap64 (a2)) (t130.length : Int)) (Int.tmod (wrap64 (a3)) (t130.length : Int))).bind fun t138 => (if t138 = true then ((tree_IsA.f t130 (Int.tmod (wrap64 (a1)) (t130.length : Int)) (Int.tmod (wrap64 (a3)) (t130.length : Int))).bind fun t139 => (some t139)) else (some true))) else (some true)) = some r := by rw [if_neg (show ¬ (false = true) by decide)] at H; exact H
                clear H
                have H := H1
                clear H1
                by_cases c28 : t133 = true
                · subst c28
                  have H1 : ((tree_IsA.f t130 (Int.tmod (wrap64 (a2)) (t130.length : Int)) (Int.tmod (wrap64 (a3)) (t130.length : Int))).bind fun t138 => (if t138 = true then ((tree_IsA.f t130 (Int.tmod (wrap64 (a1)) (t130.length : Int)) (Int.tmod (wrap64 (a3)) (t130.length : Int))).bind fun t139 => (some t139)) else (some true))) = some r := by rw [if_pos rfl] at H; exact H
                  clear H
                  have H := H1
                  clear H1
                  replace H := Option.bind_eq_some_iff.mp H
                  obtain ⟨t138, A290, H⟩ := H
                  replace H : (if t138 = true then ((tree_IsA.f t130 (Int.tmod (wrap64 (a1)) (t130.length : Int)) (Int.tmod (wrap64 (a3)) (t130.length : Int))).bind fun t139 => (some t139)) else (some true)) = some r := H
                  have A29 := Aside0.mk A290
                  clear A290
                  by_cases c30 : t138 = true
                  · subst c30
                    have H1 : ((tree_IsA.f t130 (Int.tmod (wrap64 (a1)) (t130.length : Int)) (Int.tmod (wrap64 (a3)) (t130.length : Int))).bind fun t139 => (some t139)) = some r := by rw [if_pos rfl] at H; exact H
                    clear H
                    have H := H1
                    clear H1
                    replace H := Option.bind_eq_some_iff.mp H
                    obtain ⟨t139, A310, H⟩ := H
                    replace H : (some t139) = some r := H
                    have A31 := Aside0.mk A310
                    clear A310
                    obtain rfl := Option.some.inj H
                    go_wp2_with (first | (go_at_call 11; (with_reducible refine (tree_IsA.calls _ _ t130 (Int.tmod (wrap64 (a2)) (t130.length : Int)) (Int.tmod (wrap64 (a3)) (t130.length : Int)) true _ ?side1 ?side2 A29.out).mono ?_); (case side1 => repeat (first | exact (Kd.R_reads' HO_9.out).2.2 | (with_reducible refine Kd.C_alloc ?_ _) | (with_reducible refine Kd.C_drewN ?_ _) | (with_reducible refine Kd.C_drew ?_))); (case side2 => exact (Kd.R_reads' HO_9.out).2.1); rintro e w32 ⟨rfl, hb⟩; have n0_ := Aside0.mk (Kd.R_below (by (with_reducible repeat (first | apply Kd.R_alloc | apply Kd.R_drewN | apply Kd.R_drew)); exact HO_9.out) hb); have n1_ := Aside0.mk (below_step (by repeat (first | (with_reducible first | exact HB.out | apply below_alloc | apply pw_below_drewN | apply below_drew1) | exact HB.out)) hb); clear HO_9; clear HB; have HO_9 := n0_; have HB := n1_; clear n0_ n1_; (try clear hb); (try clear hb2); (try clear hk); (try clear hi)) | (go_at_call 11; (with_reducible refine (tree_IsA.calls _ _ t130 (Int.tmod (wrap64 (a1)) (t130.length : Int)) (Int.tmod (wrap64 (a3)) (t130.length : Int)) t139 _ ?side1 ?side2 A31.out).mono ?_); (case side1 => repeat (first | exact (Kd.R_reads' HO_9.out).2.2 | (with_reducible refine Kd.C_alloc ?_ _) | (with_reducible refine Kd.C_drewN ?_ _) | (with_reducible refine Kd.C_drew ?_))); (case side2 => exact (Kd.R_reads' HO_9.out).2.1); rintro e w33 ⟨rfl, hb⟩; have n0_ := Aside0.mk (Kd.R_below (by (with_reducible repeat (first | apply Kd.R_alloc | apply Kd.R_drewN | apply Kd.R_drew)); exact HO_9.out) hb); have n1_ := Aside0.mk (below_step (by repeat (first | (with_reducible first | exact HB.out | apply below_alloc | apply pw_below_drewN | apply below_drew1) | exact HB.out)) hb); clear HO_9; clear HB; have HO_9 := n0_; have HB := n1_; clear n0_ n1_; (try clear hb); (try clear hb2); (try clear hk); (try clear hi)))
                    go_ret
                    exact ⟨by first | rfl | (simp [errW_none, errW_some] <;> rfl) | (simp [*, errW_none, errW_some] <;> rfl), by repeat (first | (with_reducible first | exact HB.out | apply below_alloc | apply pw_below_drewN | apply below_drew1) | exact HB.out)⟩
                  · replace c30 := Bool.eq_false_iff.mpr c30
                    subst c30
                    have H1 : (some true) = some r := by rw [if_neg (show ¬ (false = true) by decide)] at H; exact H
                    clear H
                    have H := H1
                    clear H1
                    obtain rfl := Option.some.inj H
                    go_wp2_with (first | (go_at_call 11; (with_reducible refine (tree_IsA.calls _ _ t130 (Int.tmod (wrap64 (a2)) (t130.length : Int)) (Int.tmod (wrap64 (a3)) (t130.length : Int)) false _ ?side1 ?side2 A29.out).mono ?_); (case side1 => repeat (first | exact (Kd.R_reads' HO_9.out).2.2 | (with_reducible refine Kd.C_alloc ?_ _) | (with_reducible refine Kd.C_drewN ?_ _) | (with_reducible refine Kd.C_drew ?_))); (case side2 => exact (Kd.R_reads' HO_9.out).2.1); rintro e w34 ⟨rfl, hb⟩; have n0_ := Aside0.mk (Kd.R_below (by (with_reducible repeat (first | apply Kd.R_alloc | apply Kd.R_drewN | apply Kd.R_drew)); exact HO_9.out) hb); have n1_ := Aside0.mk (below_step (by repeat (first | (with_reducible first | exact HB.out | apply below_alloc | apply pw_below_drewN | apply below_drew1) | exact HB.out)) hb); clear HO_9; clear HB; have HO_9 := n0_; have HB := n1_; clear n0_ n1_; (try clear hb); (try clear hb2); (try clear hk); (try clear hi)))
                    go_ret
                    exact ⟨by first | rfl | (simp [errW_none, errW_some] <;> rfl) | (simp [*, errW_none, errW_some] <;> rfl), by repeat (first | (with_reducible first | exact HB.out | apply below_alloc | apply pw_below_drewN | apply below_drew1) | exact HB.out)⟩
                · replace c28 := Bool.eq_false_iff.mpr c28
                  subst c28
                  have H1 : (some true) = some r := by rw [if_neg (show ¬ (false = true) by decide)] at H; exact H
                  clear H
                  have H := H1
                  clear H1
                  obtain rfl := Option.some.inj H
                  go_wp2
                  go_ret
                  exact ⟨by first | rfl | (simp [errW_none, errW_some] <;> rfl) | (simp [*, errW_none, errW_some] <;> rfl), by repeat (first | (with_reducible first | exact HB.out | apply below_alloc | apply pw_below_drewN | apply below_drew1) | exact HB.out)⟩

/-- THE ONE PURE STATEMENT of pacelinelaw05_TreeOrder. -/
def pacelinelaw05_TreeOrder.Pure : Prop := ∀ (l0 : List Int) (a1 : Int) (a2 : Int) (a3 : Int), OkAll (fun n_ => (Lit.int .u8 n_).wf = true) l0 → (Lit.int .u8 a1).wf = true → (Lit.int .u8 a2).wf = true → (Lit.int .u8 a3).wf = true → ∃ k, pacelinelaw05_TreeOrder.f k l0 a1 a2 a3 = some true

end Go.Proofs.Ytecjpnfhanimiaa.PTreeOrder
