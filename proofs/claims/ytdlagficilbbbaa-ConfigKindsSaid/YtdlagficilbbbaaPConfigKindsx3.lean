-- Written by gp.py (this project's driver over the kit's print) out of the translation and wip/given; Lean checks it.
import Derived.Test.YtdlagficilbbbaaPConfigKindsx0
namespace Go.Proofs.Ytdlagficilbbbaa.PConfigKinds
open Go.RowKit Go.Proofs.YtdlagficilbbbaaR Go.Proofs.YtdlagficilbbbaaW.PrintWords Go.Proofs.YtdlagficilbbbaaW.PrintLast Go.Proofs.YtdlagficilbbbaaW.PrintMore
attribute [local go_sem] max2_int min2_int max_two min_two max_three min_three max_four min_four   -- for this text's walks alone
set_option linter.unusedVariables false
set_option linter.unusedSimpArgs false

/-! ### tree_Check: function 23 -/
mutual
def tree_Check.j0 : Nat → List Int → Bool → Option (Int)
  | 0, _, _ => none
  | k + 1, x0, x13 => if x13 = true then (some 50) else (tree_Check.l0 k x0 (x0.length : Int) 0)
def tree_Check.l0 : Nat → List Int → Int → Int → Option (Int)
  | 0, _, _, _ => none
  | k + 1, x14, x15, x16 => if x16 < x15 then (if 0 ≤ x16 then (if x16 < (x14.length : Int) then (if (rd x14 x16) < (-1) then (some 50) else (if (rd x14 x16) ≥ x16 then (some 50) else (tree_Check.l0 k x14 x15 (wrap64 (x16 + 1))))) else (none)) else (none)) else (some 0)
end
def tree_Check.f (k : Nat) (l0 : List Int) : Option (Int) := if (l0.length : Int) < 1 then (tree_Check.j0 k l0 true) else (tree_Check.j0 k l0 (decide ((l0.length : Int) > 16)))
theorem tree_Check.mono_l : ∀ k, (∀ y0 y1, LeO (tree_Check.j0 k y0 y1) (tree_Check.j0 (k + 1) y0 y1)) ∧ (∀ y0 y1 y2, LeO (tree_Check.l0 k y0 y1 y2) (tree_Check.l0 (k + 1) y0 y1 y2))
  | 0 => ⟨fun _ _ r h => by simp [tree_Check.j0] at h, fun _ _ _ r h => by simp [tree_Check.l0] at h⟩
  | k + 1 => by
    obtain ⟨ih0, ih1⟩ := tree_Check.mono_l k
    refine ⟨?_, ?_⟩
    · intro y0 y1
      unfold tree_Check.j0
      repeat' first
      | (with_reducible exact ih0 _ _)
      | (with_reducible exact ih1 _ _ _)
      | (with_reducible exact LeO.refl _)
      | (with_reducible exact LeO.none _)
      | (with_reducible refine LeO.ite ?_ ?_)
      | (with_reducible refine LeO.bind ?_ (fun _ => ?_))
      | exact ih0 _ _
      | exact ih1 _ _ _
      | exact LeO.none _
      | refine LeO.ite ?_ ?_
      | refine LeO.bind ?_ (fun _ => ?_)
    · intro y0 y1 y2
      unfold tree_Check.l0
      repeat' first
      | (with_reducible exact ih0 _ _)
      | (with_reducible exact ih1 _ _ _)
      | (with_reducible exact LeO.refl _)
      | (with_reducible exact LeO.none _)
      | (with_reducible refine LeO.ite ?_ ?_)
      | (with_reducible refine LeO.bind ?_ (fun _ => ?_))
      | exact ih0 _ _
      | exact ih1 _ _ _
      | exact LeO.none _
      | refine LeO.ite ?_ ?_
      | refine LeO.bind ?_ (fun _ => ?_)
theorem tree_Check.mono : ∀ a0 k, LeO (tree_Check.f k a0) (tree_Check.f (k + 1) a0) := by
  intro a0 k
  obtain ⟨ih0, ih1⟩ := tree_Check.mono_l k
  unfold tree_Check.f
  repeat' first
      | (with_reducible exact ih0 _ _)
      | (with_reducible exact ih1 _ _ _)
      | (with_reducible exact LeO.refl _)
      | (with_reducible exact LeO.none _)
      | (with_reducible refine LeO.ite ?_ ?_)
      | (with_reducible refine LeO.bind ?_ (fun _ => ?_))
      | exact ih0 _ _
      | exact ih1 _ _ _
      | exact LeO.none _
      | refine LeO.ite ?_ ?_
      | refine LeO.bind ?_ (fun _ => ?_)
set_option maxHeartbeats 8000000 in
set_option maxRecDepth 100000 in
theorem tree_Check.calls (k : Nat) (A0 : Option Addr) (c0 : Nat) (l0 : List Int) (r : Int) (w : World) (hr0 : Kd.C (Kd.int .i64) w A0 l0.length l0) (hc0 : l0.length ≤ c0) (h : tree_Check.f k l0 = some r) :
    Calls Try.prog 23 #[.slice A0 l0.length c0] w fun e w' => e = .returned (.int .i64 r) ∧ Drawn0 w w' := by
  have HR0 := Aside0.mk hr0
  have HC0 := Aside0.mk hc0
  clear hr0 hc0
  have H : (if (l0.length : Int) < 1 then (tree_Check.j0 k l0 true) else (tree_Check.j0 k l0 (decide ((l0.length : Int) > 16)))) = some r := h
  clear h
  have HC2 := Aside0.mk H
  clear H
  go_enter Try.func23, Try.ntmps23
  go_upto_region 2 with (fail)
  go_cut [13] (fun v13 wc => ∃ (kq : Nat) (x13_1 : Bool), v13 = .bool x13_1 ∧ Aside0 (tree_Check.j0 kq l0 x13_1 = some r) ∧ Aside0 (kq ≤ k) ∧ Drawn0 w wc)
  case first =>
    have H := HC2.out
    clear HC2
    by_cases c3 : (l0.length : Int) < 1
    · rw [if_pos c3] at H
      have c3b0 : decide ((l0.length : Int) < 1) = true := decide_eq_true c3
      have c3b1 : decide (l0.length < 1) = true := decide_eq_true (by omega)
      clear c3
      (first | rw [c3b0] | (simp only [i64_w, i32_w]; rw [c3b0]) | skip)
      have H' := Aside0.mk H
      clear H
      go_wp2
      go_meet
      case rel => exact ⟨_, (true), (by first | rfl | (simp; done) | (simp [*]; done)), H', ⟨by first | omega | exact Nat.le_refl _⟩, by repeat (first | exact Drawn0.refl _ | apply Drawn0.step)⟩
    · rw [if_neg c3] at H
      have c3b0 : decide ((l0.length : Int) < 1) = false := decide_eq_false c3
      have c3b1 : decide (l0.length < 1) = false := decide_eq_false (by omega)
      clear c3
      (first | rw [c3b0] | (simp only [i64_w, i32_w]; rw [c3b0]) | skip)
      have H' := Aside0.mk H
      clear H
      go_wp2
      go_meet
      case rel => exact ⟨_, (decide ((l0.length : Int) > 16)), (by first | rfl | (simp; done) | (simp [*]; done)), H', ⟨by first | omega | exact Nat.le_refl _⟩, by repeat (first | exact Drawn0.refl _ | apply Drawn0.step)⟩
  case rest =>
    clear HC2
    try clear c2
    try clear p2
    try clear c3
    try clear c3b0
    try clear c3b1
    obtain ⟨kq, x13_1, rfl, HA, HJ1, ⟨mc1, rfl⟩⟩ := hcut
    cases kq with
    | zero => exact absurd HA.out (by simp [tree_Check.j0])
    | succ kj1 =>
      have H := HA.out
      clear HA
      simp only [tree_Check.j0] at H
      by_cases c4 : x13_1 = true
      · subst c4
        have H1 : (some 50) = some r := by rw [if_pos rfl] at H; exact H
        clear H
        have H := H1
        clear H1
        obtain rfl := Option.some.inj H
        go_wp2
        go_ret
        exact ⟨by first | rfl | (simp; done) | (simp [*]; done), by repeat (first | exact Drawn0.refl _ | apply Drawn0.step)⟩
      · replace c4 := Bool.eq_false_iff.mpr c4
        subst c4
        have H1 : (tree_Check.l0 kj1 l0 (l0.length : Int) 0) = some r := by rw [if_neg (show ¬ (false = true) by decide)] at H; exact H
        clear H
        have H := H1
        clear H1
        have H' := Aside0.mk H
        clear H
        go_wp2
        go_loopg [16] kj1 (fun kq v16 w' => ∃ (x16_2 : Int), v16 = .int .i64 x16_2 ∧ Aside0 (tree_Check.l0 kq l0 (l0.length : Int) x16_2 = some r) ∧ Aside0 (kq ≤ kj1) ∧ Drawn0 w w')
        case atStart => exact ⟨(0), (by first | rfl | (simp; done) | (simp [*]; done)), H', ⟨Nat.le_refl _⟩, by repeat (first | exact Drawn0.refl _ | apply Drawn0.step)⟩
        case round =>
          clear H'
          try clear c1
          try clear c2
          try clear p2
          try clear c3
          try clear c3b0
          try clear c3b1
          try clear c4
          try clear p2
          obtain ⟨x16_2, rfl, HA, HK2, ⟨m2, rfl⟩⟩ := hrel
          cases gk with
          | zero => exact absurd HA.out (by simp [tree_Check.l0])
          | succ k2 =>
            have H := HA.out
            clear HA
            simp only [tree_Check.l0] at H
            by_cases c5 : x16_2 < (l0.length : Int)
            · rw [if_pos c5] at H
              have c5b0 : decide (x16_2 < (l0.length : Int)) = true := decide_eq_true c5
              clear c5
              by_cases c6 : 0 ≤ x16_2
              · rw [if_pos c6] at H
                have c6b0 : decide (0 ≤ x16_2) = true := decide_eq_true c6
                clear c6
                by_cases c7 : x16_2 < (l0.length : Int)
                · rw [if_pos c7] at H
                  have c7b0 : decide (x16_2 < (l0.length : Int)) = true := decide_eq_true c7
                  clear c7
                  by_cases c8 : (rd l0 x16_2) < (-1)
                  · rw [if_pos c8] at H
                    have c8b0 : decide ((rd l0 x16_2) < (-1)) = true := decide_eq_true c8
                    clear c8
                    obtain rfl := Option.some.inj H
                    have p105 : 0 ≤ (x16_2 : Int) := of_decide_eq_true (by first | (with_reducible assumption) | assumption)
                    have q105 : x16_2 < (l0.length : Int) := of_decide_eq_true (by first | (with_reducible assumption) | assumption)
                    obtain ⟨ad105, e105, hx105_0⟩ := Kd.at_int HR0.out x16_2 p105 q105
                    cases e105
                    replace p105 := eq_true p105
                    replace q105 := eq_true q105
                    go_wp2
                    go_ret
                    exact ⟨by first | rfl | (simp; done) | (simp [*]; done), by repeat (first | exact Drawn0.refl _ | apply Drawn0.step)⟩
                  · rw [if_neg c8] at H
                    have c8b0 : decide ((rd l0 x16_2) < (-1)) = false := decide_eq_false c8
                    clear c8
                    by_cases c9 : (rd l0 x16_2) ≥ x16_2
                    · rw [if_pos c9] at H
                      have c9b0 : decide (x16_2 ≤ (rd l0 x16_2)) = true := decide_eq_true c9
                      clear c9
                      obtain rfl := Option.some.inj H
                      have p105 : 0 ≤ (x16_2 : Int) := of_decide_eq_true (by first | (with_reducible assumption) | assumption)
                      have q105 : x16_2 < (l0.length : Int) := of_decide_eq_true (by first | (with_reducible assumption) | assumption)
                      obtain ⟨ad105, e105, hx105_0⟩ := Kd.at_int HR0.out x16_2 p105 q105
                      cases e105
                      replace p105 := eq_true p105
                      replace q105 := eq_true q105
                      go_wp2
                      go_ret
                      exact ⟨by first | rfl | (simp; done) | (simp [*]; done), by repeat (first | exact Drawn0.refl _ | apply Drawn0.step)⟩
                    · rw [if_neg c9] at H
                      have c9b0 : decide (x16_2 ≤ (rd l0 x16_2)) = false := decide_eq_false c9
                      clear c9
                      have H' := Aside0.mk H
                      clear H
                      have p105 : 0 ≤ (x16_2 : Int) := of_decide_eq_true (by first | (with_reducible assumption) | assumption)
                      have q105 : x16_2 < (l0.length : Int) := of_decide_eq_true (by first | (with_reducible assumption) | assumption)
                      obtain ⟨ad105, e105, hx105_0⟩ := Kd.at_int HR0.out x16_2 p105 q105
                      cases e105
                      replace p105 := eq_true p105
                      replace q105 := eq_true q105
                      go_wp2
                      go_roundg k2
                      case measure => have := HJ1.out; have := HK2.out; omega
                      case rel => exact ⟨(wrap64 (x16_2 + 1)), (by first | rfl | (simp; done) | (simp [*]; done)), H', ⟨by have := HJ1.out; have := HK2.out; omega⟩, by repeat (first | exact Drawn0.refl _ | apply Drawn0.step)⟩
                · rw [if_neg c7] at H
                  exact absurd H (by simp)
              · rw [if_neg c6] at H
                exact absurd H (by simp)
            · rw [if_neg c5] at H
              have c5b0 : decide (x16_2 < (l0.length : Int)) = false := decide_eq_false c5
              clear c5
              obtain rfl := Option.some.inj H
              go_wp2
              go_ret
              exact ⟨by first | rfl | (simp; done) | (simp [*]; done), by repeat (first | exact Drawn0.refl _ | apply Drawn0.step)⟩

/-! ### config_within: function 25 -/
def config_within.f (a0 : Int) (a1 : Int) (a2 : Int) : Option (Bool) := if a0 ≥ a1 then (some (decide (a0 ≤ a2))) else (some false)
set_option maxHeartbeats 8000000 in
set_option maxRecDepth 100000 in
theorem config_within.calls (a0 : Int) (a1 : Int) (a2 : Int) (r : Bool) (w : World) (h : config_within.f a0 a1 a2 = some r) :
    Calls Try.prog 25 #[.int .i64 a0, .int .i64 a1, .int .i64 a2] w fun e w' => e = .returned (.bool r) ∧ Drawn0 w w' := by
  have H : (if a0 ≥ a1 then (some (decide (a0 ≤ a2))) else (some false)) = some r := h
  clear h
  by_cases c4 : a0 ≥ a1
  · rw [if_pos c4] at H
    have c4b0 : decide (a1 ≤ a0) = true := decide_eq_true c4
    clear c4
    obtain rfl := Option.some.inj H
    go_enter Try.func25, Try.ntmps25
    go_wp2
    go_ret
    exact ⟨by first | rfl | (simp; done) | (simp [*]; done), by repeat (first | exact Drawn0.refl _ | apply Drawn0.step)⟩
  · rw [if_neg c4] at H
    have c4b0 : decide (a1 ≤ a0) = false := decide_eq_false c4
    clear c4
    obtain rfl := Option.some.inj H
    go_enter Try.func25, Try.ntmps25
    go_wp2
    go_ret
    exact ⟨by first | rfl | (simp; done) | (simp [*]; done), by repeat (first | exact Drawn0.refl _ | apply Drawn0.step)⟩

/-! ### tree_IsA: function 31 (by hand) -/
open Go.Proofs.YtdlagficilbbbaaU in
def tree_IsA.f (l0 : List Int) (a1 : Int) (a2 : Int) : Option Bool := some (decide (a2 ∈ upL l0 a1))
section
open Go.Proofs.YtdlagficilbbbaaU
def tree_IsA.okFrom (ps : List Int) (i : Int) : Prop := ∀ j : Nat, i ≤ (j : Int) → j < ps.length → -1 ≤ ps.getD j 0 ∧ ps.getD j 0 < (j : Int)
theorem tree_IsA.ck_loop (ps : List Int) (h16 : ps.length ≤ 16) (d : Nat) : ∀ (k : Nat) (i : Int), 0 ≤ i → i ≤ (ps.length : Int) → (ps.length : Int) - i = d → d < k →
    ∃ r, tree_Check.l0 k ps (ps.length : Int) i = some r ∧ (tree_IsA.okFrom ps i → r = 0) ∧ (¬ tree_IsA.okFrom ps i → r = 50) := by
  induction d with
  | zero =>
    intro k i h0 h1 hd hk
    obtain ⟨k, rfl⟩ : ∃ m, k = m + 1 := ⟨k - 1, by omega⟩
    exact ⟨0, by simp only [tree_Check.l0]; rw [if_neg (by omega)], fun _ => rfl, fun h => absurd (fun j hj hl => by omega) h⟩
  | succ d ih =>
    intro k i h0 h1 hd hk
    obtain ⟨k, rfl⟩ : ∃ m, k = m + 1 := ⟨k - 1, by omega⟩
    have hlt : i < (ps.length : Int) := by omega
    have hat : ∀ j : Nat, (j : Int) = i → ps.getD j 0 = rd ps i := fun j hj => by
      subst hj
      rfl
    simp only [tree_Check.l0]
    rw [if_pos hlt, if_pos h0, if_pos hlt]
    by_cases h2 : rd ps i < -1
    · exact ⟨50, by rw [if_pos h2], fun h => by have := h i.toNat (by omega) (by omega); rw [hat i.toNat (by omega)] at this; omega, fun _ => rfl⟩
    · rw [if_neg h2]
      by_cases h3 : rd ps i ≥ i
      · exact ⟨50, by rw [if_pos h3], fun h => by have := h i.toNat (by omega) (by omega); rw [hat i.toNat (by omega)] at this; omega, fun _ => rfl⟩
      · rw [if_neg h3, show wrap64 (i + 1) = i + 1 by unfold wrap64; omega]
        obtain ⟨r, hr, ha, hb⟩ := ih k (i + 1) (by omega) (by omega) (by omega) (by omega)
        refine ⟨r, hr, fun h => ha (fun j hj hl => h j (by omega) hl), fun h => hb (fun h' => h (fun j hj hl => ?_))⟩
        by_cases e : (j : Int) = i
        · rw [hat j e]; omega
        · exact h' j (by omega) hl
theorem tree_IsA.ck (ps : List Int) (k : Nat) (hk : 18 ≤ k) : tree_Check.f k ps = some (if treeB ps = true then 0 else 50) := by
  have hT : treeB ps = true ↔ Tree ps := by unfold treeB; exact decide_eq_true_iff
  obtain ⟨k, rfl⟩ : ∃ m, k = m + 1 := ⟨k - 1, by omega⟩
  unfold tree_Check.f
  by_cases h1 : (ps.length : Int) < 1
  · rw [if_pos h1, if_neg (fun h => by have := (hT.mp h).1; omega)]
    simp only [tree_Check.j0, if_true]
  · rw [if_neg h1]
    by_cases h2 : (ps.length : Int) > 16
    · rw [if_neg (fun h => by have := (hT.mp h).2.1; omega)]
      simp only [tree_Check.j0, decide_eq_true_eq]
      rw [if_pos h2]
    · simp only [tree_Check.j0, decide_eq_true_eq]
      rw [if_neg h2]
      obtain ⟨r, hr, ha, hb⟩ := tree_IsA.ck_loop ps (by omega) ps.length k 0 (by omega) (by omega) (by omega) (by omega)
      rw [hr]
      by_cases ht : treeB ps = true
      · rw [if_pos ht, ha (fun j _ hl => (hT.mp ht).2.2 j hl)]
      · rw [if_neg ht, hb (fun h => ht (hT.mpr ⟨by omega, by omega, fun j hj => h j (by omega) hj⟩))]
theorem tree_IsA.hck (A : Option Addr) (c : Nat) (ps : List Int) (hc : ps.length ≤ c) : ∀ W, Kd.C (Kd.int .i64) W A ps.length ps → Calls Try.prog 23 #[.slice A ps.length c] W fun e w' => e = .returned (.int .i64 (if treeB ps = true then 0 else 50)) ∧ ∃ q, w' = W.drewN q :=
  fun W h => (tree_Check.calls 18 A c ps _ W h hc (tree_IsA.ck ps 18 (Nat.le_refl _))).mono fun e w' ⟨he, hd⟩ => ⟨he, hd.out⟩
theorem tree_IsA.calls (A0 : Option Addr) (c0 : Nat) (l0 : List Int) (a1 : Int) (a2 : Int) (r : Bool) (w : World) (hr0 : Kd.C (Kd.int .i64) w A0 l0.length l0) (hc0 : l0.length ≤ c0) (h : tree_IsA.f l0 a1 a2 = some r) :
    Calls Try.prog 31 #[.slice A0 l0.length c0, .int .i64 a1, .int .i64 a2] w fun e w' => e = .returned (.bool r) ∧ Below w.heap.size w w' := by
  obtain rfl := Option.some.inj h
  exact isA_calls A0 c0 l0 a1 a2 w hr0 (tree_IsA.hck A0 c0 l0 hc0)
end

/-! ### slices_Index_int_int: function 50 -/
def slices_Index_int_int.l0 : Nat → List Int → Int → Int → Int → Option (Int)
  | 0, _, _, _, _ => none
  | k + 1, x0, x1, x7, x8 => if x8 < x7 then (if 0 ≤ x8 then (if x8 < (x0.length : Int) then (if x1 = (rd x0 x8) then (some x8) else (slices_Index_int_int.l0 k x0 x1 x7 (wrap64 (x8 + 1)))) else (none)) else (none)) else (some (-1))
def slices_Index_int_int.f (k : Nat) (l0 : List Int) (a1 : Int) : Option (Int) := slices_Index_int_int.l0 k l0 a1 (l0.length : Int) 0
theorem slices_Index_int_int.mono_l : ∀ k, (∀ y0 y1 y2 y3, LeO (slices_Index_int_int.l0 k y0 y1 y2 y3) (slices_Index_int_int.l0 (k + 1) y0 y1 y2 y3))
  | 0 => fun _ _ _ _ r h => by simp [slices_Index_int_int.l0] at h
  | k + 1 => by
    have ih0 := slices_Index_int_int.mono_l k
    · intro y0 y1 y2 y3
      unfold slices_Index_int_int.l0
      repeat' first
      | (with_reducible exact ih0 _ _ _ _)
      | (with_reducible exact LeO.refl _)
      | (with_reducible exact LeO.none _)
      | (with_reducible refine LeO.ite ?_ ?_)
      | (with_reducible refine LeO.bind ?_ (fun _ => ?_))
      | exact ih0 _ _ _ _
      | exact LeO.none _
      | refine LeO.ite ?_ ?_
      | refine LeO.bind ?_ (fun _ => ?_)
theorem slices_Index_int_int.mono : ∀ a0 a1 k, LeO (slices_Index_int_int.f k a0 a1) (slices_Index_int_int.f (k + 1) a0 a1) := by
  intro a0 a1 k
  have ih0 := slices_Index_int_int.mono_l k
  unfold slices_Index_int_int.f
  repeat' first
      | (with_reducible exact ih0 _ _ _ _)
      | (with_reducible exact LeO.refl _)
      | (with_reducible exact LeO.none _)
      | (with_reducible refine LeO.ite ?_ ?_)
      | (with_reducible refine LeO.bind ?_ (fun _ => ?_))
      | exact ih0 _ _ _ _
      | exact LeO.none _
      | refine LeO.ite ?_ ?_
      | refine LeO.bind ?_ (fun _ => ?_)
set_option maxHeartbeats 8000000 in
set_option maxRecDepth 100000 in
theorem slices_Index_int_int.calls (k : Nat) (A0 : Option Addr) (c0 : Nat) (l0 : List Int) (a1 : Int) (r : Int) (w : World) (hr0 : Kd.C (Kd.int .i64) w A0 l0.length l0) (hc0 : l0.length ≤ c0) (h : slices_Index_int_int.f k l0 a1 = some r) :
    Calls Try.prog 50 #[.slice A0 l0.length c0, .int .i64 a1] w fun e w' => e = .returned (.int .i64 r) ∧ Drawn0 w w' := by
  have HR0 := Aside0.mk hr0
  have HC0 := Aside0.mk hc0
  clear hr0 hc0
  have H : (slices_Index_int_int.l0 k l0 a1 (l0.length : Int) 0) = some r := h
  clear h
  have H' := Aside0.mk H
  clear H
  go_enter Try.func50, Try.ntmps50
  go_wp2
  go_loopg [8] k (fun kq v8 w' => ∃ (x8_1 : Int), v8 = .int .i64 x8_1 ∧ Aside0 (slices_Index_int_int.l0 kq l0 a1 (l0.length : Int) x8_1 = some r) ∧ Aside0 (kq ≤ k) ∧ Drawn0 w w')
  case atStart => exact ⟨(0), (by first | rfl | (simp; done) | (simp [*]; done)), H', ⟨Nat.le_refl _⟩, by repeat (first | exact Drawn0.refl _ | apply Drawn0.step)⟩
  case round =>
    clear H'
    try clear p2
    obtain ⟨x8_1, rfl, HA, HK1, ⟨m1, rfl⟩⟩ := hrel
    cases gk with
    | zero => exact absurd HA.out (by simp [slices_Index_int_int.l0])
    | succ k1 =>
      have H := HA.out
      clear HA
      simp only [slices_Index_int_int.l0] at H
      by_cases c3 : x8_1 < (l0.length : Int)
      · rw [if_pos c3] at H
        have c3b0 : decide (x8_1 < (l0.length : Int)) = true := decide_eq_true c3
        clear c3
        by_cases c4 : 0 ≤ x8_1
        · rw [if_pos c4] at H
          have c4b0 : decide (0 ≤ x8_1) = true := decide_eq_true c4
          clear c4
          by_cases c5 : x8_1 < (l0.length : Int)
          · rw [if_pos c5] at H
            have c5b0 : decide (x8_1 < (l0.length : Int)) = true := decide_eq_true c5
            clear c5
            by_cases c6 : a1 = (rd l0 x8_1)
            · rw [if_pos c6] at H
              have c6b0 : (a1 == (rd l0 x8_1)) = true := beq_iff_eq.mpr c6
              have c6b1 : (a1 != (rd l0 x8_1)) = false := bne_eq_false_iff_eq.mpr c6
              clear c6
              obtain rfl := Option.some.inj H
              have p106 : 0 ≤ (x8_1 : Int) := of_decide_eq_true (by first | (with_reducible assumption) | assumption)
              have q106 : x8_1 < (l0.length : Int) := of_decide_eq_true (by first | (with_reducible assumption) | assumption)
              obtain ⟨ad106, e106, hx106_0⟩ := Kd.at_int HR0.out x8_1 p106 q106
              cases e106
              replace p106 := eq_true p106
              replace q106 := eq_true q106
              go_wp2
              go_ret
              exact ⟨by first | rfl | (simp; done) | (simp [*]; done), by repeat (first | exact Drawn0.refl _ | apply Drawn0.step)⟩
            · rw [if_neg c6] at H
              have c6b0 : (a1 == (rd l0 x8_1)) = false := beq_eq_false_iff_ne.mpr c6
              have c6b1 : (a1 != (rd l0 x8_1)) = true := bne_iff_ne.mpr c6
              have H' := Aside0.mk H
              clear H
              have p106 : 0 ≤ (x8_1 : Int) := of_decide_eq_true (by first | (with_reducible assumption) | assumption)
              have q106 : x8_1 < (l0.length : Int) := of_decide_eq_true (by first | (with_reducible assumption) | assumption)
              obtain ⟨ad106, e106, hx106_0⟩ := Kd.at_int HR0.out x8_1 p106 q106
              cases e106
              replace p106 := eq_true p106
              replace q106 := eq_true q106
              go_wp2
              go_roundg k1
              case measure => have := HK1.out; omega
              case rel => exact ⟨(wrap64 (x8_1 + 1)), (by first | rfl | (simp; done) | (simp [*]; done)), H', ⟨by have := HK1.out; omega⟩, by repeat (first | exact Drawn0.refl _ | apply Drawn0.step)⟩
          · rw [if_neg c5] at H
            exact absurd H (by simp)
        · rw [if_neg c4] at H
          exact absurd H (by simp)
      · rw [if_neg c3] at H
        have c3b0 : decide (x8_1 < (l0.length : Int)) = false := decide_eq_false c3
        clear c3
        obtain rfl := Option.some.inj H
        go_wp2
        go_ret
        exact ⟨by first | rfl | (simp; done) | (simp [*]; done), by repeat (first | exact Drawn0.refl _ | apply Drawn0.step)⟩

/-! ### slices_Contains_int_int: function 38 -/
def slices_Contains_int_int.f (k : Nat) (l0 : List Int) (a1 : Int) : Option (Bool) := (slices_Index_int_int.f k l0 a1).bind fun t107 => (some (decide (t107 ≥ 0)))
theorem slices_Contains_int_int.mono : ∀ a0 a1 k, LeO (slices_Contains_int_int.f k a0 a1) (slices_Contains_int_int.f (k + 1) a0 a1) := by
  intro a0 a1 k
  unfold slices_Contains_int_int.f
  repeat' first
      | (with_reducible exact slices_Index_int_int.mono _ _ _)
      | (with_reducible exact LeO.refl _)
      | (with_reducible exact LeO.none _)
      | (with_reducible refine LeO.ite ?_ ?_)
      | (with_reducible refine LeO.bind ?_ (fun _ => ?_))
      | exact slices_Index_int_int.mono _ _ _
      | exact LeO.none _
      | refine LeO.ite ?_ ?_
      | refine LeO.bind ?_ (fun _ => ?_)
set_option maxHeartbeats 8000000 in
set_option maxRecDepth 100000 in
theorem slices_Contains_int_int.calls (k : Nat) (A0 : Option Addr) (c0 : Nat) (l0 : List Int) (a1 : Int) (r : Bool) (w : World) (hr0 : Kd.C (Kd.int .i64) w A0 l0.length l0) (hc0 : l0.length ≤ c0) (h : slices_Contains_int_int.f k l0 a1 = some r) :
    Calls Try.prog 38 #[.slice A0 l0.length c0, .int .i64 a1] w fun e w' => e = .returned (.bool r) ∧ Drawn0 w w' := by
  have HR0 := Aside0.mk hr0
  have HC0 := Aside0.mk hc0
  clear hr0 hc0
  have H : ((slices_Index_int_int.f k l0 a1).bind fun t107 => (some (decide (t107 ≥ 0)))) = some r := h
  clear h
  replace H := Option.bind_eq_some_iff.mp H
  obtain ⟨t107, A30, H⟩ := H
  replace H : (some (decide (t107 ≥ 0))) = some r := H
  have A3 := Aside0.mk A30
  clear A30
  obtain rfl := Option.some.inj H
  go_enter Try.func38, Try.ntmps38
  go_wp2_with (first | ((with_reducible refine gate_callee (f := 50) rfl ?_); refine goesL_ (some 7) rfl rfl Try.func50 (by kernel_rfl) rfl #[.slice A0 l0.length c0, .int .i64 a1] rfl (by (try simp only [List.map_toArray, List.map_cons, List.map_nil]); first | done | rfl | (simp only [List.length_drop, List.length_take]; rfl)) ?_; (with_reducible refine (slices_Index_int_int.calls k _ _ l0 a1 t107 _ ?side1 ?side2 A3.out).mono ?_); (case side1 => repeat (first | exact HR0.out | (with_reducible refine Kd.C_alloc ?_ _) | (with_reducible refine Kd.C_drewN ?_ _) | (with_reducible refine Kd.C_drew ?_))); (case side2 => exact HC0.out); rintro e w' ⟨rfl, ⟨nd, rfl⟩⟩; refine ⟨_, rfl, ?_⟩))
  go_ret
  exact ⟨by first | rfl | (simp; done) | (simp [*]; done), by repeat (first | exact Drawn0.refl _ | apply Drawn0.step)⟩

/-! ### table_Check: function 41 (by hand) -/
def table_Check.bel (n m : Int) : Bool := decide (0 ≤ n ∧ n < m)
def table_Check.wfo (o : S55) : Bool := (Lit.int .i64 o.f0).wf && (Lit.int .i64 o.f1).wf && (Lit.int .i64 o.f2).wf
def table_Check.wfr (r : S44) : Bool := (Lit.int .i64 r.f0).wf && (Lit.int .i64 r.f1).wf && (Lit.int .i64 r.f2).wf && r.f3.all table_Check.wfo
def table_Check.odd (o : S55) : Bool := !(table_Check.bel o.f0 16) || !(table_Check.bel o.f1 1048577) || !(table_Check.bel o.f2 1000)
def table_Check.met (l : List S44) (s c : Int) : Bool := l.any (fun r => r.f0 == s && r.f1 == c)
def table_Check.bad (l : List S44) (r : S44) : Bool := table_Check.met l r.f0 r.f1 || !(table_Check.bel r.f0 8) || !(table_Check.bel r.f2 8) || !(table_Check.bel r.f1 16) || decide (3 < r.f3.length) || r.f3.any table_Check.odd
def table_Check.scan : List S44 → List S44 → Int
  | _, [] => 0
  | l, r :: t => if table_Check.bad l r then 70 else table_Check.scan (l ++ [r]) t
def table_Check.f (l0 : List S44) : Option Int := if l0.all table_Check.wfr then some (if 32 < l0.length then 70 else table_Check.scan [] l0) else none
section
open Go.Proofs.YtdlagficilbbbaaI Go.Proofs.YtdlagficilbbbaaM
theorem table_Check.wrap_lt (n m : Int) (hn : (Lit.int .i64 n).wf = true) (hm : 0 ≤ m ∧ m < 9223372036854775808) : decide (IntKind.u64.wrap n < m) = table_Check.bel n m := by
  obtain ⟨h1, h2⟩ := wf_i64 hn
  unfold table_Check.bel
  rw [decide_eq_decide]
  by_cases h : 0 ≤ n
  · have : IntKind.u64.wrap n = n := by simp only [IntKind.wrap, IntKind.bits, IntKind.signed, Bool.false_and, Bool.false_eq_true, if_false]; omega
    omega
  · have : IntKind.u64.wrap n = n + 18446744073709551616 := by simp only [IntKind.wrap, IntKind.bits, IntKind.signed, Bool.false_and, Bool.false_eq_true, if_false]; omega
    omega
set_option maxHeartbeats 1000000 in
theorem table_Check.below (n m : Int) (hn : (Lit.int .i64 n).wf = true) (hm : 0 ≤ m ∧ m < 9223372036854775808) (w : World) : Calls Try.prog 52 #[.int .i64 n, .int .i64 m] w fun e w' => e = .returned (.bool (table_Check.bel n m)) ∧ w' = w := by
  have HX := Aside0.mk (table_Check.wrap_lt n m hn hm)
  go_enter Try.func52, Try.ntmps52
  go_wp2
  go_ret
  refine ⟨?_, rfl⟩
  rw [← HX.out]
  rfl
theorem table_Check.wfo3 {o : S55} (h : table_Check.wfo o = true) : (Lit.int .i64 o.f0).wf = true ∧ (Lit.int .i64 o.f1).wf = true ∧ (Lit.int .i64 o.f2).wf = true := by
  unfold table_Check.wfo at h
  simp only [Bool.and_eq_true] at h
  exact ⟨h.1.1, h.1.2, h.2⟩
theorem table_Check.wfr4 {o : S44} (h : table_Check.wfr o = true) : (Lit.int .i64 o.f0).wf = true ∧ (Lit.int .i64 o.f1).wf = true ∧ (Lit.int .i64 o.f2).wf = true ∧ o.f3.all table_Check.wfo = true := by
  unfold table_Check.wfr at h
  simp only [Bool.and_eq_true] at h
  exact ⟨h.1.1.1, h.1.1.2, h.1.2, h.2⟩
set_option maxRecDepth 100000 in
set_option maxHeartbeats 1000000 in
theorem table_Check.pred (l : List S55) (hwf : l.all table_Check.wfo = true) (w : World) : Pred Try.prog 51 #[] k55 table_Check.odd l w := by
  intro W x cs hb hx hK
  obtain rfl := k55_open hK
  obtain ⟨w0, w1, w2⟩ := table_Check.wfo3 (List.all_eq_true.mp hwf x hx)
  clear hb hK
  have C0 := Aside0.mk (fun W => table_Check.below x.f0 16 w0 (by omega) W)
  have C1 := Aside0.mk (fun W => table_Check.below x.f1 1048577 w1 (by omega) W)
  have C2 := Aside0.mk (fun W => table_Check.below x.f2 1000 w2 (by omega) W)
  have HO : Aside0 (table_Check.odd x = (!(table_Check.bel x.f0 16) || !(table_Check.bel x.f1 1048577) || !(table_Check.bel x.f2 1000))) := ⟨rfl⟩
  clear w0 w1 w2 hx hwf
  have HB := Aside0.mk ((Below.refl _ W).alloc (Nat.le_refl _) (.cells #[.int .i64 x.f0, .int .i64 x.f1, .int .i64 x.f2] 55))
  have hu := Try.underlying55
  cases h0 : table_Check.bel x.f0 16 <;> cases h1 : table_Check.bel x.f1 1048577 <;> cases h2 : table_Check.bel x.f2 1000
  all_goals
    rw [h0, h1, h2] at HO
    rw [h0] at C0
    rw [h1] at C1
    rw [h2] at C2
    clear h0 h1 h2
    go_enter Try.func51, Try.ntmps51
    go_wp2_with (go_at_call 52; first | (with_reducible refine (C0.out _).mono ?_; rintro e w' ⟨rfl, rfl⟩) | (with_reducible refine (C1.out _).mono ?_; rintro e w' ⟨rfl, rfl⟩) | (with_reducible refine (C2.out _).mono ?_; rintro e w' ⟨rfl, rfl⟩))
    go_ret
    exact ⟨by rw [HO.out]; rfl, HB.out⟩
theorem table_Check.drop_at {α : Type} {l : List α} {k : Nat} {x : α} (hx : l[k]? = some x) : l.drop k = x :: l.drop (k + 1) ∧ l.take (k + 1) = l.take k ++ [x] := by
  obtain ⟨hk, rfl⟩ := List.getElem?_eq_some_iff.1 hx
  exact ⟨List.drop_eq_getElem_cons hk, List.take_succ_eq_append_getElem hk⟩
theorem table_Check.more {l : List S44} {k : Nat} {x : S44} (e : table_Check.scan [] l = table_Check.scan (l.take k) (l.drop k)) (hx : l[k]? = some x) (hb : table_Check.bad (l.take k) x = false) : table_Check.scan [] l = table_Check.scan (l.take (k + 1)) (l.drop (k + 1)) := by
  obtain ⟨h1, h2⟩ := table_Check.drop_at hx
  rw [e, h1, h2, table_Check.scan, hb]
  rfl
theorem table_Check.stop {l : List S44} {k : Nat} {x : S44} (e : table_Check.scan [] l = table_Check.scan (l.take k) (l.drop k)) (hx : l[k]? = some x) (hb : table_Check.bad (l.take k) x = true) : table_Check.scan [] l = 70 := by
  obtain ⟨h1, h2⟩ := table_Check.drop_at hx
  rw [e, h1, table_Check.scan, hb]
  rfl
theorem table_Check.met_more {l : List S44} {k : Nat} {x : S44} (hx : l[k]? = some x) : (fun s' c' => (x.f0 == s' && x.f1 == c') || table_Check.met (l.take k) s' c') = table_Check.met (l.take (k + 1)) := by
  obtain ⟨h1, h2⟩ := table_Check.drop_at hx
  funext s c
  unfold table_Check.met
  rw [h2, List.any_append]
  simp [Bool.or_comm]
set_option maxRecDepth 100000 in
set_option maxHeartbeats 4000000 in
theorem table_Check.calls (A0 : Option Addr) (c0 : Nat) (l0 : List S44) (r : Int) (w : World) (hr0 : Kd.C k44 w A0 l0.length l0) (hc0 : l0.length ≤ c0) (h : table_Check.f l0 = some r) :
    Calls Try.prog 41 #[.slice A0 l0.length c0] w fun e w' => e = .returned (.int .i64 r) ∧ Below w.heap.size w w' := by
  unfold table_Check.f at h
  split at h
  · rename_i hwf
    obtain rfl := Option.some.inj h
    clear h
    have hmf : ∀ (fn : Fn) (first cap : Array Value) (w : World), (Instr.makeFunc fn first cap).run Try.prog w = .ok (.func fn first cap) w := fun _ _ _ _ => rfl
    have hmm := @run_makeMap Try.prog
    have HR := Aside0.mk hr0
    have HW := Aside0.mk hwf
    clear hr0 hwf
    by_cases hlen : 32 < l0.length
    · rw [if_pos hlen]
      have hl : (32 : Int) < (l0.length : Int) := by omega
      clear hlen
      go_enter Try.func41, Try.ntmps41
      go_wp2
      go_ret
      exact ⟨rfl, Below.refl _ w⟩
    · rw [if_neg hlen]
      have hl : ¬ (32 : Int) < (l0.length : Int) := by omega
      have HL := Aside0.mk hlen
      clear hlen
      have HM := Aside0.mk (set_made w)
      go_enter Try.func41, Try.ntmps41
      go_wp2
      go_loopg [14] l0.length (fun gg s14 wr => ∃ kk : Nat, kk ≤ l0.length ∧ l0.length - kk ≤ gg ∧ s14 = .int .i64 kk ∧ Aside0 (Below w.heap.size w wr) ∧ Aside0 (SetIs wr w.heap.size kk (table_Check.met (l0.take kk))) ∧ Aside0 (table_Check.scan [] l0 = table_Check.scan (l0.take kk) (l0.drop kk)))
      case atStart =>
        refine ⟨0, Nat.zero_le _, by omega, rfl, ⟨(Below.refl _ w).alloc (Nat.le_refl _) _⟩, ⟨HM.out⟩, ⟨rfl⟩⟩
      case round =>
        obtain ⟨kk, hkk, hg, rfl, BW, SW, EQ⟩ := hrel
        by_cases hlt : kk < l0.length
        · have hltz : (kk : Int) < (l0.length : Int) := by omega
          obtain ⟨x, hx⟩ : ∃ x, l0[kk]? = some x := ⟨_, List.getElem?_eq_getElem hlt⟩
          obtain ⟨ad, cs, rfl, hcl, hK, hcell⟩ := cells_at (Kd.C_below HR.out BW.out) hx
          obtain ⟨A3, c3, rfl, l3, g3⟩ := k44_open hK
          have q0 : wr.cell? (ad.add (kk * 4)) = some (.int .i64 x.f0) := by exact hcell 0 _ rfl
          have q1 : wr.cell? ⟨(ad.add (kk * 4)).block, (ad.add (kk * 4)).off + 1, none⟩ = some (.int .i64 x.f1) := by have := hcell 1 _ rfl; rwa [add_field _ _ 1 (by omega)] at this
          have q2 : wr.cell? ⟨(ad.add (kk * 4)).block, (ad.add (kk * 4)).off + 2, none⟩ = some (.int .i64 x.f2) := by have := hcell 2 _ rfl; rwa [add_field _ _ 2 (by omega)] at this
          have q3 : wr.cell? ⟨(ad.add (kk * 4)).block, (ad.add (kk * 4)).off + 3, none⟩ = some (.slice A3 x.f3.length c3) := by have := hcell 3 _ rfl; rwa [add_field _ _ 3 (by omega)] at this
          clear hcell hK hcl
          obtain ⟨w0, w1, w2, w3⟩ := table_Check.wfr4 (List.all_eq_true.mp HW.out x (List.mem_of_getElem? hx))
          have W0 := Aside0.mk w0
          have W1 := Aside0.mk w1
          have W3 := Aside0.mk w3
          have G3 := Aside0.mk g3
          have HX := Aside0.mk hx
          have C0 := Aside0.mk (fun W => table_Check.below x.f0 8 w0 (by omega) W)
          have C1 := Aside0.mk (fun W => table_Check.below x.f2 8 w2 (by omega) W)
          have C2 := Aside0.mk (fun W => table_Check.below x.f1 16 w1 (by omega) W)
          have C3 := Aside0.mk (fun (W : World) (hW : Below wr.heap.size wr W) => contains_out k55 rfl table_Check.odd 51 #[] (enters_of Try.func51 (by kernel_rfl) rfl) A3 c3 x.f3 W (Kd.C_below g3 hW) (table_Check.pred x.f3 w3 W))
          clear w0 w1 w2 w3 g3 hx
          have hc : (table_Check.met (l0.take kk) x.f0 x.f1 = true ∧ table_Check.bad (l0.take kk) x = true)
            ∨ (table_Check.met (l0.take kk) x.f0 x.f1 = false ∧ table_Check.bel x.f0 8 = false ∧ table_Check.bad (l0.take kk) x = true)
            ∨ (table_Check.met (l0.take kk) x.f0 x.f1 = false ∧ table_Check.bel x.f0 8 = true ∧ table_Check.bel x.f2 8 = false ∧ table_Check.bad (l0.take kk) x = true)
            ∨ (table_Check.met (l0.take kk) x.f0 x.f1 = false ∧ table_Check.bel x.f0 8 = true ∧ table_Check.bel x.f2 8 = true ∧ table_Check.bel x.f1 16 = false ∧ table_Check.bad (l0.take kk) x = true)
            ∨ (table_Check.met (l0.take kk) x.f0 x.f1 = false ∧ table_Check.bel x.f0 8 = true ∧ table_Check.bel x.f2 8 = true ∧ table_Check.bel x.f1 16 = true ∧ (3 : Int) < (x.f3.length : Int) ∧ table_Check.bad (l0.take kk) x = true)
            ∨ (table_Check.met (l0.take kk) x.f0 x.f1 = false ∧ table_Check.bel x.f0 8 = true ∧ table_Check.bel x.f2 8 = true ∧ table_Check.bel x.f1 16 = true ∧ ¬ (3 : Int) < (x.f3.length : Int) ∧ x.f3.any table_Check.odd = true ∧ table_Check.bad (l0.take kk) x = true)
            ∨ (table_Check.met (l0.take kk) x.f0 x.f1 = false ∧ table_Check.bel x.f0 8 = true ∧ table_Check.bel x.f2 8 = true ∧ table_Check.bel x.f1 16 = true ∧ ¬ (3 : Int) < (x.f3.length : Int) ∧ x.f3.any table_Check.odd = false ∧ table_Check.bad (l0.take kk) x = false) := by
            unfold table_Check.bad
            cases table_Check.met (l0.take kk) x.f0 x.f1 <;> cases table_Check.bel x.f0 8 <;> cases table_Check.bel x.f2 8 <;> cases table_Check.bel x.f1 16 <;> cases x.f3.any table_Check.odd <;> by_cases h3 : 3 < x.f3.length <;> simp [h3] <;> omega
          rcases hc with ⟨h1, hb⟩ | ⟨h1, h2, hb⟩ | ⟨h1, h2, h3, hb⟩ | ⟨h1, h2, h3, h4, hb⟩ | ⟨h1, h2, h3, h4, h5, hb⟩ | ⟨h1, h2, h3, h4, h5, h6, hb⟩ | ⟨h1, h2, h3, h4, h5, h6, hb⟩
          all_goals
            have HB := Aside0.mk hb
            clear hb
          case inr.inr.inr.inr.inr.inr =>
            have HE : Aside0 (table_Check.scan [] l0 = table_Check.scan (l0.take (kk + 1)) (l0.drop (kk + 1))) := ⟨table_Check.more EQ.out HX.out HB.out⟩
            have HQ : Aside0 ((fun s' c' => (x.f0 == s' && x.f1 == c') || table_Check.met (l0.take kk) s' c') = table_Check.met (l0.take (kk + 1))) := ⟨table_Check.met_more HX.out⟩
            have HK : Aside0 (kk < maxLen) := ⟨by have := HL.out; unfold maxLen; omega⟩
            go_wp2_with (first
              | (at_lookup; refine wpList_look _ rfl _ _ rfl _ _ _ _ _ rfl rfl ((SW.out.alloc _).alloc _) W0.out W1.out ?_)
              | (at_mapUpdate; refine wpList_store _ rfl _ _ _ rfl _ _ _ _ _ rfl rfl rfl (((SW.out.alloc _).alloc _).below HB'.out) HK.out W0.out W1.out ?_; intro w'' hS hG)
              | (go_at_call 52; first | (with_reducible refine (C0.out _).mono ?_; rintro e w' ⟨rfl, rfl⟩) | (with_reducible refine (C1.out _).mono ?_; rintro e w' ⟨rfl, rfl⟩) | (with_reducible refine (C2.out _).mono ?_; rintro e w' ⟨rfl, rfl⟩))
              | (go_at_call 42; refine (C3.out _ (((Below.refl _ wr).alloc (Nat.le_refl _) _).alloc (by simp) _)).mono ?_; rintro e w' ⟨rfl, hb'⟩; have b0 := pw_cell_below hb' (show World.cell? _ ⟨wr.heap.size + 1, 0, none⟩ = some (.int .i64 x.f0) by simp); have b1 := pw_cell_below hb' (show World.cell? _ ⟨wr.heap.size + 1, 1, none⟩ = some (.int .i64 x.f1) by simp); have HB' := Aside0.mk hb'; clear hb'))
            have HS := Aside0.mk hS
            have HG := Aside0.mk hG
            clear hS hG
            go_roundg (l0.length - (kk + 1))
            case measure => omega
            case rel =>
              refine ⟨kk + 1, by omega, by omega, by go_num, ⟨below_grown (below_step ((BW.out.alloc BW.out.size _).alloc (by have := BW.out.size; simp; omega) _) HB'.out) HG.out (Nat.le_refl _)⟩, ⟨HQ.out ▸ HS.out⟩, HE⟩
          case inr.inr.inr.inr.inr.inl =>
            have HR : Aside0 (table_Check.scan [] l0 = 70) := ⟨table_Check.stop EQ.out HX.out HB.out⟩
            go_wp2_with (first
              | (at_lookup; refine wpList_look _ rfl _ _ rfl _ _ _ _ _ rfl rfl ((SW.out.alloc _).alloc _) W0.out W1.out ?_)
              | (go_at_call 52; first | (with_reducible refine (C0.out _).mono ?_; rintro e w' ⟨rfl, rfl⟩) | (with_reducible refine (C1.out _).mono ?_; rintro e w' ⟨rfl, rfl⟩) | (with_reducible refine (C2.out _).mono ?_; rintro e w' ⟨rfl, rfl⟩))
              | (go_at_call 42; refine (C3.out _ (((Below.refl _ wr).alloc (Nat.le_refl _) _).alloc (by simp) _)).mono ?_; rintro e w' ⟨rfl, hb'⟩; have HB' := Aside0.mk hb'; clear hb'))
            go_ret
            exact ⟨by rw [HR.out]; rfl, below_step ((BW.out.alloc BW.out.size _).alloc (by have := BW.out.size; simp; omega) _) HB'.out⟩
          all_goals
            have HR : Aside0 (table_Check.scan [] l0 = 70) := ⟨table_Check.stop EQ.out HX.out HB.out⟩
            go_wp2_with (first
              | (at_lookup; refine wpList_look _ rfl _ _ rfl _ _ _ _ _ rfl rfl ((SW.out.alloc _).alloc _) W0.out W1.out ?_)
              | (go_at_call 52; first | (with_reducible refine (C0.out _).mono ?_; rintro e w' ⟨rfl, rfl⟩) | (with_reducible refine (C1.out _).mono ?_; rintro e w' ⟨rfl, rfl⟩) | (with_reducible refine (C2.out _).mono ?_; rintro e w' ⟨rfl, rfl⟩)))
            go_ret
            exact ⟨by rw [HR.out]; rfl, (BW.out.alloc BW.out.size _).alloc (by have := BW.out.size; simp; omega) _⟩
        · have hltz : ¬ (kk : Int) < (l0.length : Int) := by omega
          have hkl : kk = l0.length := by omega
          have HN : Aside0 (table_Check.scan [] l0 = 0) := ⟨by rw [EQ.out, hkl, List.drop_length]; rfl⟩
          clear hkl
          go_wp2
          go_ret
          refine ⟨?_, BW.out⟩
          rw [HN.out]
          rfl
  · cases h
end

end Go.Proofs.Ytdlagficilbbbaa.PConfigKinds
