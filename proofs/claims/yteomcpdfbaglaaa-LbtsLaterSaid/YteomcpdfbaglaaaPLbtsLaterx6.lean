-- Written by gp.py (this project's driver over the kit's print) out of the translation and wip/given; Lean checks it.
import Derived.Test.YteomcpdfbaglaaaPLbtsLaterx0
import Derived.Test.YteomcpdfbaglaaaPLbtsLaterx1
import Derived.Test.YteomcpdfbaglaaaPLbtsLaterx3
import Derived.Test.YteomcpdfbaglaaaPLbtsLaterx5
namespace Go.Proofs.Yteomcpdfbaglaaa.PLbtsLater
open Go.RowKit Go.Proofs.YteomcpdfbaglaaaR Go.Proofs.YteomcpdfbaglaaaW.PrintWords Go.Proofs.YteomcpdfbaglaaaW.PrintLast Go.Proofs.YteomcpdfbaglaaaW.PrintMore
attribute [local go_sem] max2_int min2_int max_two min_two max_three min_three max_four min_four   -- for this text's walks alone
set_option linter.unusedVariables false
set_option linter.unusedSimpArgs false

/-! ### pacelinelaw18_LbtsLater: function 5 -/
mutual
def pacelinelaw18_LbtsLater.j0 : Nat → List (S30) → Int → Bool → Bool → Int → Int → Int → Int → Option (Bool)
  | 0, _, _, _, _, _, _, _, _ => none
  | k + 1, x0, x1, x3, x20, x165000, x165001, x165002, x165003 => if x20 = true then ((lbts_Lbts.f k ([] : List (S30)) 3).bind fun t165 => (some (t165 == 1125899906842624))) else (if (x0.length : Int) = 0 then (none) else ((some (([] : List (S30)) : List (S30))).bind fun y166 => (if y166.length + x0.length < 2932031007402 then ((some (y166 ++ x0 : List (S30))).bind fun y169 => (if 0 ≤ (Int.tmod (wrap64 (x1)) (x0.length : Int)) then (if (Int.tmod (wrap64 (x1)) (x0.length : Int)) < (y169.length : Int) then ((pacelineref01_Add.f ((rd_T30 y169 (Int.tmod (wrap64 (x1)) (x0.length : Int))).f2) (wrap64 (x165000))).bind fun t174 => ((pacelineref01_Add.f ((rd_T30 y169 (Int.tmod (wrap64 (x1)) (x0.length : Int))).f5) (wrap64 (x165001))).bind fun t175 => ((pacelineref01_Add.f ((rd_T30 y169 (Int.tmod (wrap64 (x1)) (x0.length : Int))).f6) (wrap64 (x165002))).bind fun t176 => (if x3 = true then (pacelinelaw18_LbtsLater.j1 k x0 (Int.tmod (wrap64 (x1)) (x0.length : Int)) y169 false ((rd_T30 y169 (Int.tmod (wrap64 (x1)) (x0.length : Int))).f1) t174 (wrap64 ((mx 1 (mn ((rd_T30 y169 (Int.tmod (wrap64 (x1)) (x0.length : Int))).f3) 1048576)) + (wrap64 (x165003)))) ((rd_T30 y169 (Int.tmod (wrap64 (x1)) (x0.length : Int))).f4) t175 t176) else (pacelinelaw18_LbtsLater.j1 k x0 (Int.tmod (wrap64 (x1)) (x0.length : Int)) y169 ((rd_T30 y169 (Int.tmod (wrap64 (x1)) (x0.length : Int))).f0) ((rd_T30 y169 (Int.tmod (wrap64 (x1)) (x0.length : Int))).f1) t174 (wrap64 ((mx 1 (mn ((rd_T30 y169 (Int.tmod (wrap64 (x1)) (x0.length : Int))).f3) 1048576)) + (wrap64 (x165003)))) ((rd_T30 y169 (Int.tmod (wrap64 (x1)) (x0.length : Int))).f4) t175 t176))))) else (none)) else (none))) else (none))))
def pacelinelaw18_LbtsLater.j1 : Nat → List (S30) → Int → List (S30) → Bool → Bool → Int → Int → Int → Int → Int → Option (Bool)
  | 0, _, _, _, _, _, _, _, _, _, _ => none
  | k + 1, x0, x9, x10, x174000, x174001, x174002, x174003, x174004, x174005, x174006 => if 0 ≤ x9 then (if x9 < (x10.length : Int) then (pacelinelaw18_LbtsLater.l0 k x0 (x10.set (x9 : Int).toNat (⟨x174000, x174001, x174002, x174003, x174004, x174005, x174006⟩ : S30)) 0) else (none)) else (none)
def pacelinelaw18_LbtsLater.l0 : Nat → List (S30) → List (S30) → Int → Option (Bool)
  | 0, _, _, _ => none
  | k + 1, x0, x10, x12 => if x12 < (x0.length : Int) then ((lbts_Lbts.f k x10 x12).bind fun t178 => ((lbts_Lbts.f k x0 x12).bind fun t179 => (if t178 < t179 then (some false) else ((lbts_Lbts.f k x0 x12).bind fun t180 => ((pacelinelaw18_theirs.f k x0).bind fun t181 => ((pacelineref18_Lbts.f k t181 x12).bind fun t184 => (if t180 = t184 then (pacelinelaw18_LbtsLater.l0 k x0 x10 (wrap64 (x12 + 1))) else (some false)))))))) else (some true)
end
def pacelinelaw18_LbtsLater.f (k : Nat) (l0 : List (S30)) (a1 : Int) (a2_0 : Int) (a2_1 : Int) (a2_2 : Int) (a2_3 : Int) (a3 : Bool) : Option (Bool) := if (l0.length : Int) > 20 then (pacelinelaw18_LbtsLater.j0 k l0 a1 a3 true a2_0 a2_1 a2_2 a2_3) else (pacelinelaw18_LbtsLater.j0 k l0 a1 a3 ((l0.length : Int) == 0) a2_0 a2_1 a2_2 a2_3)
theorem pacelinelaw18_LbtsLater.mono_l : ∀ k, (∀ y0 y1 y2 y3 y4 y5 y6 y7, LeO (pacelinelaw18_LbtsLater.j0 k y0 y1 y2 y3 y4 y5 y6 y7) (pacelinelaw18_LbtsLater.j0 (k + 1) y0 y1 y2 y3 y4 y5 y6 y7)) ∧ (∀ y0 y1 y2 y3 y4 y5 y6 y7 y8 y9, LeO (pacelinelaw18_LbtsLater.j1 k y0 y1 y2 y3 y4 y5 y6 y7 y8 y9) (pacelinelaw18_LbtsLater.j1 (k + 1) y0 y1 y2 y3 y4 y5 y6 y7 y8 y9)) ∧ (∀ y0 y1 y2, LeO (pacelinelaw18_LbtsLater.l0 k y0 y1 y2) (pacelinelaw18_LbtsLater.l0 (k + 1) y0 y1 y2))
  | 0 => ⟨fun _ _ _ _ _ _ _ _ r h => by simp [pacelinelaw18_LbtsLater.j0] at h, fun _ _ _ _ _ _ _ _ _ _ r h => by simp [pacelinelaw18_LbtsLater.j1] at h, fun _ _ _ r h => by simp [pacelinelaw18_LbtsLater.l0] at h⟩
  | k + 1 => by
    obtain ⟨ih0, ih1, ih2⟩ := pacelinelaw18_LbtsLater.mono_l k
    refine ⟨?_, ?_, ?_⟩
    · intro y0 y1 y2 y3 y4 y5 y6 y7
      unfold pacelinelaw18_LbtsLater.j0
      repeat' first
      | (with_reducible exact ih0 _ _ _ _ _ _ _ _)
      | (with_reducible exact ih1 _ _ _ _ _ _ _ _ _ _)
      | (with_reducible exact ih2 _ _ _)
      | (with_reducible exact lbts_Lbts.mono _ _ _)
      | (with_reducible exact pacelinelaw18_theirs.mono _ _)
      | (with_reducible exact pacelineref18_Lbts.mono _ _ _)
      | (with_reducible exact LeO.refl _)
      | (with_reducible exact LeO.none _)
      | (with_reducible refine LeO.ite ?_ ?_)
      | (with_reducible refine LeO.bind ?_ (fun _ => ?_))
      | exact ih0 _ _ _ _ _ _ _ _
      | exact ih1 _ _ _ _ _ _ _ _ _ _
      | exact ih2 _ _ _
      | exact lbts_Lbts.mono _ _ _
      | exact pacelinelaw18_theirs.mono _ _
      | exact pacelineref18_Lbts.mono _ _ _
      | exact LeO.none _
      | refine LeO.ite ?_ ?_
      | refine LeO.bind ?_ (fun _ => ?_)
    · intro y0 y1 y2 y3 y4 y5 y6 y7 y8 y9
      unfold pacelinelaw18_LbtsLater.j1
      repeat' first
      | (with_reducible exact ih0 _ _ _ _ _ _ _ _)
      | (with_reducible exact ih1 _ _ _ _ _ _ _ _ _ _)
      | (with_reducible exact ih2 _ _ _)
      | (with_reducible exact lbts_Lbts.mono _ _ _)
      | (with_reducible exact pacelinelaw18_theirs.mono _ _)
      | (with_reducible exact pacelineref18_Lbts.mono _ _ _)
      | (with_reducible exact LeO.refl _)
      | (with_reducible exact LeO.none _)
      | (with_reducible refine LeO.ite ?_ ?_)
      | (with_reducible refine LeO.bind ?_ (fun _ => ?_))
      | exact ih0 _ _ _ _ _ _ _ _
      | exact ih1 _ _ _ _ _ _ _ _ _ _
      | exact ih2 _ _ _
      | exact lbts_Lbts.mono _ _ _
      | exact pacelinelaw18_theirs.mono _ _
      | exact pacelineref18_Lbts.mono _ _ _
      | exact LeO.none _
      | refine LeO.ite ?_ ?_
      | refine LeO.bind ?_ (fun _ => ?_)
    · intro y0 y1 y2
      unfold pacelinelaw18_LbtsLater.l0
      repeat' first
      | (with_reducible exact ih0 _ _ _ _ _ _ _ _)
      | (with_reducible exact ih1 _ _ _ _ _ _ _ _ _ _)
      | (with_reducible exact ih2 _ _ _)
      | (with_reducible exact lbts_Lbts.mono _ _ _)
      | (with_reducible exact pacelinelaw18_theirs.mono _ _)
      | (with_reducible exact pacelineref18_Lbts.mono _ _ _)
      | (with_reducible exact LeO.refl _)
      | (with_reducible exact LeO.none _)
      | (with_reducible refine LeO.ite ?_ ?_)
      | (with_reducible refine LeO.bind ?_ (fun _ => ?_))
      | exact ih0 _ _ _ _ _ _ _ _
      | exact ih1 _ _ _ _ _ _ _ _ _ _
      | exact ih2 _ _ _
      | exact lbts_Lbts.mono _ _ _
      | exact pacelinelaw18_theirs.mono _ _
      | exact pacelineref18_Lbts.mono _ _ _
      | exact LeO.none _
      | refine LeO.ite ?_ ?_
      | refine LeO.bind ?_ (fun _ => ?_)
theorem pacelinelaw18_LbtsLater.mono : ∀ a0 a1 a2 a3 a4 a5 a6 k, LeO (pacelinelaw18_LbtsLater.f k a0 a1 a2 a3 a4 a5 a6) (pacelinelaw18_LbtsLater.f (k + 1) a0 a1 a2 a3 a4 a5 a6) := by
  intro a0 a1 a2 a3 a4 a5 a6 k
  obtain ⟨ih0, ih1, ih2⟩ := pacelinelaw18_LbtsLater.mono_l k
  unfold pacelinelaw18_LbtsLater.f
  repeat' first
      | (with_reducible exact ih0 _ _ _ _ _ _ _ _)
      | (with_reducible exact ih1 _ _ _ _ _ _ _ _ _ _)
      | (with_reducible exact ih2 _ _ _)
      | (with_reducible exact lbts_Lbts.mono _ _ _)
      | (with_reducible exact pacelinelaw18_theirs.mono _ _)
      | (with_reducible exact pacelineref18_Lbts.mono _ _ _)
      | (with_reducible exact LeO.refl _)
      | (with_reducible exact LeO.none _)
      | (with_reducible refine LeO.ite ?_ ?_)
      | (with_reducible refine LeO.bind ?_ (fun _ => ?_))
      | exact ih0 _ _ _ _ _ _ _ _
      | exact ih1 _ _ _ _ _ _ _ _ _ _
      | exact ih2 _ _ _
      | exact lbts_Lbts.mono _ _ _
      | exact pacelinelaw18_theirs.mono _ _
      | exact pacelineref18_Lbts.mono _ _ _
      | exact LeO.none _
      | refine LeO.ite ?_ ?_
      | refine LeO.bind ?_ (fun _ => ?_)
set_option maxHeartbeats 40000000 in
set_option maxRecDepth 100000 in
theorem pacelinelaw18_LbtsLater.calls (k : Nat) (A0 : Option Addr) (c0 : Nat) (l0 : List (S30)) (a1 : Int) (a2_0 : Int) (a2_1 : Int) (a2_2 : Int) (a2_3 : Int) (a3 : Bool) (r : Bool) (w : World) (hr0 : Kd.C k30 w A0 l0.length l0) (hc0 : l0.length ≤ c0) (h : pacelinelaw18_LbtsLater.f k l0 a1 a2_0 a2_1 a2_2 a2_3 a3 = some r) :
    Calls Try.prog 5 #[.slice A0 l0.length c0, .int .u8 a1, .agg #[.int .u16 a2_0, .int .u16 a2_1, .int .u16 a2_2, .int .u16 a2_3], .bool a3] w fun e w' => e = .returned (.bool r) ∧ Below w.heap.size w w' := by
  have hu38 := Try.underlying38
  have hu30 := Try.underlying30
  have HR0 := Aside0.mk hr0
  have HC0 := Aside0.mk hc0
  clear hr0 hc0
  have HB := Aside0.mk (Below.refl w.heap.size w)
  have H : (if (l0.length : Int) > 20 then (pacelinelaw18_LbtsLater.j0 k l0 a1 a3 true a2_0 a2_1 a2_2 a2_3) else (pacelinelaw18_LbtsLater.j0 k l0 a1 a3 ((l0.length : Int) == 0) a2_0 a2_1 a2_2 a2_3)) = some r := h
  clear h
  have HC5 := Aside0.mk H
  clear H
  go_enter Try.func5, Try.ntmps5
  go_upto_region 1 with (first | ((with_reducible refine gate_dst (N := 6) rfl ?_); (try (refine gate_guard (by rfl) ?_; dsimp only)); refine box_event ?hg (N := 6) ?hd (cs := #[.int .u16 a2_0, .int .u16 a2_1, .int .u16 a2_2, .int .u16 a2_3]) (t := 38) ?hr ?_; (case hd => rfl); (case hg => rfl); (case hr => first | (go_simp; done) | (go_simp; rfl)); intro gb164 hg w6 hbox hb; have n0_ := Aside0.mk (below_step (by repeat (first | (with_reducible first | exact HB.out | apply below_alloc | apply pw_below_drewN | apply below_drew1) | exact HB.out)) hb); have n1_ := Aside0.mk (hbox); have n2_ := Aside0.mk ((by rw [hg]; exact (below_size (by repeat (first | (with_reducible first | exact HB.out | apply below_alloc | apply pw_below_drewN | apply below_drew1) | exact HB.out))) : w.heap.size ≤ gb164)); have n3_ := Aside0.mk ((by rw [hg]; exact (below_size (by repeat (first | (with_reducible first | exact HB.out | apply below_alloc | apply pw_below_drewN | apply below_drew1) | exact HB.out))) : w.heap.size ≤ gb164)); clear HB; have HB := n0_; have BK164 := n1_; have GW164 := n2_; have GE164 := n3_; clear n0_ n1_ n2_ n3_; clear hb hbox hg))
  (try simp only [Act.put, List.setIfInBounds_toArray, List.set_cons_zero, List.set_cons_succ])
  go_cut [20] (fun v20 wc => ∃ (kq : Nat) (x20_4 : Bool), v20 = .bool x20_4 ∧ Aside0 (pacelinelaw18_LbtsLater.j0 kq l0 a1 a3 x20_4 a2_0 a2_1 a2_2 a2_3 = some r) ∧ Aside0 (kq ≤ k) ∧ Aside0 (wc.heap[gb164]? = some (.cells #[.int .u16 a2_0, .int .u16 a2_1, .int .u16 a2_2, .int .u16 a2_3] 38 (0, 0))) ∧ Aside0 (Below w.heap.size w wc))
  case first =>
    have H := HC5.out
    clear HC5
    by_cases c7 : (l0.length : Int) > 20
    · rw [if_pos c7] at H
      have c7b0 : decide (20 < (l0.length : Int)) = true := decide_eq_true c7
      have c7b1 : decide (20 < l0.length) = true := decide_eq_true (by omega)
      clear c7
      (first | rw [c7b0] | (simp only [i64_w, i32_w]; rw [c7b0]) | skip)
      have H' := Aside0.mk H
      clear H
      go_wp2
      go_meet
      case rel => exact ⟨_, (true), (by first | rfl | (simp; done) | (simp [*]; done)), H', ⟨by first | omega | exact Nat.le_refl _⟩, ⟨by (with_reducible repeat (first | refine blk_drewN ?_ _ | refine blk_drew ?_ | refine blk_alloc ?_ _)); exact BK164.out⟩, ⟨by repeat (first | (with_reducible first | exact HB.out | apply below_alloc | apply pw_below_drewN | apply below_drew1 | refine below_set ?_ GE164.out) | exact HB.out)⟩⟩
    · rw [if_neg c7] at H
      have c7b0 : decide (20 < (l0.length : Int)) = false := decide_eq_false c7
      have c7b1 : decide (20 < l0.length) = false := decide_eq_false (by omega)
      clear c7
      (first | rw [c7b0] | (simp only [i64_w, i32_w]; rw [c7b0]) | skip)
      have H' := Aside0.mk H
      clear H
      go_wp2
      go_meet
      case rel => exact ⟨_, (((l0.length : Int) == 0)), (by first | rfl | (simp; done) | (simp [*]; done)), H', ⟨by first | omega | exact Nat.le_refl _⟩, ⟨by (with_reducible repeat (first | refine blk_drewN ?_ _ | refine blk_drew ?_ | refine blk_alloc ?_ _)); exact BK164.out⟩, ⟨by repeat (first | (with_reducible first | exact HB.out | apply below_alloc | apply pw_below_drewN | apply below_drew1 | refine below_set ?_ GE164.out) | exact HB.out)⟩⟩
  case rest =>
    clear HC5
    try clear p2
    try clear c5
    try clear c7
    try clear c7b0
    try clear c7b1
    obtain ⟨kq, x20_4, rfl, HA, HJ4, BK164, HB⟩ := hcut
    cases kq with
    | zero => exact absurd HA.out (by simp [pacelinelaw18_LbtsLater.j0])
    | succ kj4 =>
      have H := HA.out
      clear HA
      simp only [pacelinelaw18_LbtsLater.j0] at H
      by_cases c8 : x20_4 = true
      · subst c8
        have H1 : ((lbts_Lbts.f kj4 ([] : List (S30)) 3).bind fun t165 => (some (t165 == 1125899906842624))) = some r := by rw [if_pos rfl] at H; exact H
        clear H
        have H := H1
        clear H1
        replace H := Option.bind_eq_some_iff.mp H
        obtain ⟨t165, A90, H⟩ := H
        replace H : (some (t165 == 1125899906842624)) = some r := H
        have A9 := Aside0.mk A90
        clear A90
        obtain rfl := Option.some.inj H
        go_wp2_with (first | ((with_reducible refine gate_callee (f := 14) rfl ?_); refine goesL_ (some 21) rfl rfl Try.func14 (by kernel_rfl) rfl #[.slice none 0 0, .int .i64 3] rfl (by (try simp only [List.map_toArray, List.map_cons, List.map_nil]); first | done | rfl | (simp only [List.length_drop, List.length_take]; rfl)) ?_; (refine (lbts_Lbts.calls kj4 _ _ ([] : List (S30)) 3 t165 _ ?side1 ?side2 A9.out).mono ?_); (case side1 => exact Kd.C_nil _ _); (case side2 => exact Nat.le_refl _); rintro e w10 ⟨rfl, hb⟩; refine ⟨_, rfl, ?_⟩; have n0_ := Aside0.mk (blk_below (g := gb164) (o := .cells #[.int .u16 a2_0, .int .u16 a2_1, .int .u16 a2_2, .int .u16 a2_3] 38 (0, 0)) (by (with_reducible repeat (first | refine blk_drewN ?_ _ | refine blk_drew ?_ | refine blk_alloc ?_ _)); exact BK164.out) hb); have n1_ := Aside0.mk (below_step (by repeat (first | (with_reducible first | exact HB.out | apply below_alloc | apply pw_below_drewN | apply below_drew1 | refine below_set ?_ GE164.out) | exact HB.out)) hb); clear BK164; clear HB; have BK164 := n0_; have HB := n1_; clear n0_ n1_; (try clear hb); (try clear hb2); (try clear hk); (try clear hi)))
        go_ret
        exact ⟨by first | rfl | (simp [errW_none, errW_some] <;> rfl) | (simp [*, errW_none, errW_some] <;> rfl), by repeat (first | (with_reducible first | exact HB.out | apply below_alloc | apply pw_below_drewN | apply below_drew1 | refine below_set ?_ GE164.out) | exact HB.out)⟩
      · replace c8 := Bool.eq_false_iff.mpr c8
        subst c8
        have H1 : (if (l0.length : Int) = 0 then (none) else ((some (([] : List (S30)) : List (S30))).bind fun y166 => (if y166.length + l0.length < 2932031007402 then ((some (y166 ++ l0 : List (S30))).bind fun y169 => (if 0 ≤ (Int.tmod (wrap64 (a1)) (l0.length : Int)) then (if (Int.tmod (wrap64 (a1)) (l0.length : Int)) < (y169.length : Int) then ((pacelineref01_Add.f ((rd_T30 y169 (Int.tmod (wrap64 (a1)) (l0.length : Int))).f2) (wrap64 (a2_0))).bind fun t174 => ((pacelineref01_Add.f ((rd_T30 y169 (Int.tmod (wrap64 (a1)) (l0.length : Int))).f5) (wrap64 (a2_1))).bind fun t175 => ((pacelineref01_Add.f ((rd_T30 y169 (Int.tmod (wrap64 (a1)) (l0.length : Int))).f6) (wrap64 (a2_2))).bind fun t176 => (if a3 = true then (pacelinelaw18_LbtsLater.j1 kj4 l0 (Int.tmod (wrap64 (a1)) (l0.length : Int)) y169 false ((rd_T30 y169 (Int.tmod (wrap64 (a1)) (l0.length : Int))).f1) t174 (wrap64 ((mx 1 (mn ((rd_T30 y169 (Int.tmod (wrap64 (a1)) (l0.length : Int))).f3) 1048576)) + (wrap64 (a2_3)))) ((rd_T30 y169 (Int.tmod (wrap64 (a1)) (l0.length : Int))).f4) t175 t176) else (pacelinelaw18_LbtsLater.j1 kj4 l0 (Int.tmod (wrap64 (a1)) (l0.length : Int)) y169 ((rd_T30 y169 (Int.tmod (wrap64 (a1)) (l0.length : Int))).f0) ((rd_T30 y169 (Int.tmod (wrap64 (a1)) (l0.length : Int))).f1) t174 (wrap64 ((mx 1 (mn ((rd_T30 y169 (Int.tmod (wrap64 (a1)) (l0.length : Int))).f3) 1048576)) + (wrap64 (a2_3)))) ((rd_T30 y169 (Int.tmod (wrap64 (a1)) (l0.length : Int))).f4) t175 t176))))) else (none)) else (none))) else (none)))) = some r := by rw [if_neg (show ¬ (false = true) by decide)] at H; exact H
        clear H
        have H := H1
        clear H1
        by_cases c11 : (l0.length : Int) = 0
        · rw [if_pos c11] at H
          exact absurd H (by simp)
        · rw [if_neg c11] at H
          have c11b0 : ((l0.length : Int) == 0) = false := beq_eq_false_iff_ne.mpr c11
          have c11b1 : ((l0.length : Int) != 0) = true := bne_iff_ne.mpr c11
          have c11b2 : ¬ (l0 = []) := fun h_ => c11 (by rw [h_]; rfl)
          obtain ⟨y166, hy166⟩ : ∃ y_ : List (S30), y_ = (([] : List (S30))) := ⟨_, rfl⟩
          replace H : (if y166.length + l0.length < 2932031007402 then ((some (y166 ++ l0 : List (S30))).bind fun y169 => (if 0 ≤ (Int.tmod (wrap64 (a1)) (l0.length : Int)) then (if (Int.tmod (wrap64 (a1)) (l0.length : Int)) < (y169.length : Int) then ((pacelineref01_Add.f ((rd_T30 y169 (Int.tmod (wrap64 (a1)) (l0.length : Int))).f2) (wrap64 (a2_0))).bind fun t174 => ((pacelineref01_Add.f ((rd_T30 y169 (Int.tmod (wrap64 (a1)) (l0.length : Int))).f5) (wrap64 (a2_1))).bind fun t175 => ((pacelineref01_Add.f ((rd_T30 y169 (Int.tmod (wrap64 (a1)) (l0.length : Int))).f6) (wrap64 (a2_2))).bind fun t176 => (if a3 = true then (pacelinelaw18_LbtsLater.j1 kj4 l0 (Int.tmod (wrap64 (a1)) (l0.length : Int)) y169 false ((rd_T30 y169 (Int.tmod (wrap64 (a1)) (l0.length : Int))).f1) t174 (wrap64 ((mx 1 (mn ((rd_T30 y169 (Int.tmod (wrap64 (a1)) (l0.length : Int))).f3) 1048576)) + (wrap64 (a2_3)))) ((rd_T30 y169 (Int.tmod (wrap64 (a1)) (l0.length : Int))).f4) t175 t176) else (pacelinelaw18_LbtsLater.j1 kj4 l0 (Int.tmod (wrap64 (a1)) (l0.length : Int)) y169 ((rd_T30 y169 (Int.tmod (wrap64 (a1)) (l0.length : Int))).f0) ((rd_T30 y169 (Int.tmod (wrap64 (a1)) (l0.length : Int))).f1) t174 (wrap64 ((mx 1 (mn ((rd_T30 y169 (Int.tmod (wrap64 (a1)) (l0.length : Int))).f3) 1048576)) + (wrap64 (a2_3)))) ((rd_T30 y169 (Int.tmod (wrap64 (a1)) (l0.length : Int))).f4) t175 t176))))) else (none)) else (none))) else (none)) = some r := by first | (rw [hy166]; with_reducible exact H) | (have H2_ := (Option.bind_some _ _).symm.trans H; rw [hy166]; with_reducible exact H2_) | (have H2_ := (Option.bind_some _ _).symm.trans H; with_reducible exact H2_) | with_reducible exact H | (rw [hy166]; exact H) | exact H
          have Ny166 := Aside0.mk hy166
          clear hy166
          by_cases c12 : y166.length + l0.length < 2932031007402
          · rw [if_pos c12] at H
            have LMc12 := Aside0.mk c12
            clear c12
            obtain ⟨y169, hy169⟩ : ∃ y_ : List (S30), y_ = (y166 ++ l0) := ⟨_, rfl⟩
            replace H : (if 0 ≤ (Int.tmod (wrap64 (a1)) (l0.length : Int)) then (if (Int.tmod (wrap64 (a1)) (l0.length : Int)) < (y169.length : Int) then ((pacelineref01_Add.f ((rd_T30 y169 (Int.tmod (wrap64 (a1)) (l0.length : Int))).f2) (wrap64 (a2_0))).bind fun t174 => ((pacelineref01_Add.f ((rd_T30 y169 (Int.tmod (wrap64 (a1)) (l0.length : Int))).f5) (wrap64 (a2_1))).bind fun t175 => ((pacelineref01_Add.f ((rd_T30 y169 (Int.tmod (wrap64 (a1)) (l0.length : Int))).f6) (wrap64 (a2_2))).bind fun t176 => (if a3 = true then (pacelinelaw18_LbtsLater.j1 kj4 l0 (Int.tmod (wrap64 (a1)) (l0.length : Int)) y169 false ((rd_T30 y169 (Int.tmod (wrap64 (a1)) (l0.length : Int))).f1) t174 (wrap64 ((mx 1 (mn ((rd_T30 y169 (Int.tmod (wrap64 (a1)) (l0.length : Int))).f3) 1048576)) + (wrap64 (a2_3)))) ((rd_T30 y169 (Int.tmod (wrap64 (a1)) (l0.length : Int))).f4) t175 t176) else (pacelinelaw18_LbtsLater.j1 kj4 l0 (Int.tmod (wrap64 (a1)) (l0.length : Int)) y169 ((rd_T30 y169 (Int.tmod (wrap64 (a1)) (l0.length : Int))).f0) ((rd_T30 y169 (Int.tmod (wrap64 (a1)) (l0.length : Int))).f1) t174 (wrap64 ((mx 1 (mn ((rd_T30 y169 (Int.tmod (wrap64 (a1)) (l0.length : Int))).f3) 1048576)) + (wrap64 (a2_3)))) ((rd_T30 y169 (Int.tmod (wrap64 (a1)) (l0.length : Int))).f4) t175 t176))))) else (none)) else (none)) = some r := by first | (rw [hy169]; with_reducible exact H) | (have H2_ := (Option.bind_some _ _).symm.trans H; rw [hy169]; with_reducible exact H2_) | (have H2_ := (Option.bind_some _ _).symm.trans H; with_reducible exact H2_) | with_reducible exact H | (rw [hy169]; exact H) | exact H
            have Ny169 := Aside0.mk hy169
            clear hy169
            obtain ⟨ji13, hji13⟩ : ∃ j_ : Int, (Int.tmod (wrap64 (a1)) (l0.length : Int)) = j_ := ⟨_, rfl⟩
            replace H : (if 0 ≤ (ji13) then (if (ji13) < (y169.length : Int) then ((pacelineref01_Add.f ((rd_T30 y169 (ji13)).f2) (wrap64 (a2_0))).bind fun t174 => ((pacelineref01_Add.f ((rd_T30 y169 (ji13)).f5) (wrap64 (a2_1))).bind fun t175 => ((pacelineref01_Add.f ((rd_T30 y169 (ji13)).f6) (wrap64 (a2_2))).bind fun t176 => (if a3 = true then (pacelinelaw18_LbtsLater.j1 kj4 l0 ji13 y169 false ((rd_T30 y169 (ji13)).f1) t174 (wrap64 ((mx 1 (mn ((rd_T30 y169 (ji13)).f3) 1048576)) + (wrap64 (a2_3)))) ((rd_T30 y169 (ji13)).f4) t175 t176) else (pacelinelaw18_LbtsLater.j1 kj4 l0 ji13 y169 ((rd_T30 y169 (ji13)).f0) ((rd_T30 y169 (ji13)).f1) t174 (wrap64 ((mx 1 (mn ((rd_T30 y169 (ji13)).f3) 1048576)) + (wrap64 (a2_3)))) ((rd_T30 y169 (ji13)).f4) t175 t176))))) else (none)) else (none)) = some r := by first | (rw [hji13] at H; exact H) | (simp only [hji13] at H ⊢; exact H)
            by_cases c14 : 0 ≤ (ji13)
            · rw [if_pos c14] at H
              have c14b0 : decide (0 ≤ (ji13)) = true := decide_eq_true c14
              clear c14
              by_cases c15 : (ji13) < (y169.length : Int)
              · rw [if_pos c15] at H
                have c15b0 : decide ((ji13) < (y169.length : Int)) = true := decide_eq_true c15
                clear c15
                replace H := Option.bind_eq_some_iff.mp H
                obtain ⟨t174, A160, H⟩ := H
                replace H : ((pacelineref01_Add.f ((rd_T30 y169 (ji13)).f5) (wrap64 (a2_1))).bind fun t175 => ((pacelineref01_Add.f ((rd_T30 y169 (ji13)).f6) (wrap64 (a2_2))).bind fun t176 => (if a3 = true then (pacelinelaw18_LbtsLater.j1 kj4 l0 ji13 y169 false ((rd_T30 y169 (ji13)).f1) t174 (wrap64 ((mx 1 (mn ((rd_T30 y169 (ji13)).f3) 1048576)) + (wrap64 (a2_3)))) ((rd_T30 y169 (ji13)).f4) t175 t176) else (pacelinelaw18_LbtsLater.j1 kj4 l0 ji13 y169 ((rd_T30 y169 (ji13)).f0) ((rd_T30 y169 (ji13)).f1) t174 (wrap64 ((mx 1 (mn ((rd_T30 y169 (ji13)).f3) 1048576)) + (wrap64 (a2_3)))) ((rd_T30 y169 (ji13)).f4) t175 t176)))) = some r := H
                have A16 := Aside0.mk A160
                clear A160
                replace H := Option.bind_eq_some_iff.mp H
                obtain ⟨t175, A170, H⟩ := H
                replace H : ((pacelineref01_Add.f ((rd_T30 y169 (ji13)).f6) (wrap64 (a2_2))).bind fun t176 => (if a3 = true then (pacelinelaw18_LbtsLater.j1 kj4 l0 ji13 y169 false ((rd_T30 y169 (ji13)).f1) t174 (wrap64 ((mx 1 (mn ((rd_T30 y169 (ji13)).f3) 1048576)) + (wrap64 (a2_3)))) ((rd_T30 y169 (ji13)).f4) t175 t176) else (pacelinelaw18_LbtsLater.j1 kj4 l0 ji13 y169 ((rd_T30 y169 (ji13)).f0) ((rd_T30 y169 (ji13)).f1) t174 (wrap64 ((mx 1 (mn ((rd_T30 y169 (ji13)).f3) 1048576)) + (wrap64 (a2_3)))) ((rd_T30 y169 (ji13)).f4) t175 t176))) = some r := H
                have A17 := Aside0.mk A170
                clear A170
                replace H := Option.bind_eq_some_iff.mp H
                obtain ⟨t176, A180, H⟩ := H
                replace H : (if a3 = true then (pacelinelaw18_LbtsLater.j1 kj4 l0 ji13 y169 false ((rd_T30 y169 (ji13)).f1) t174 (wrap64 ((mx 1 (mn ((rd_T30 y169 (ji13)).f3) 1048576)) + (wrap64 (a2_3)))) ((rd_T30 y169 (ji13)).f4) t175 t176) else (pacelinelaw18_LbtsLater.j1 kj4 l0 ji13 y169 ((rd_T30 y169 (ji13)).f0) ((rd_T30 y169 (ji13)).f1) t174 (wrap64 ((mx 1 (mn ((rd_T30 y169 (ji13)).f3) 1048576)) + (wrap64 (a2_3)))) ((rd_T30 y169 (ji13)).f4) t175 t176)) = some r := H
                have A18 := Aside0.mk A180
                clear A180
                obtain ⟨ji19, hji19⟩ : ∃ j_ : Int, (mn ((rd_T30 y169 (ji13)).f3) 1048576) = j_ := ⟨_, rfl⟩
                replace H : (if a3 = true then (pacelinelaw18_LbtsLater.j1 kj4 l0 ji13 y169 false ((rd_T30 y169 (ji13)).f1) t174 (wrap64 ((mx 1 (ji19)) + (wrap64 (a2_3)))) ((rd_T30 y169 (ji13)).f4) t175 t176) else (pacelinelaw18_LbtsLater.j1 kj4 l0 ji13 y169 ((rd_T30 y169 (ji13)).f0) ((rd_T30 y169 (ji13)).f1) t174 (wrap64 ((mx 1 (ji19)) + (wrap64 (a2_3)))) ((rd_T30 y169 (ji13)).f4) t175 t176)) = some r := by first | (rw [hji19] at H; exact H) | (simp only [hji19] at H ⊢; exact H)
                (try rw [hji19] at A16)
                (try rw [hji19] at A17)
                (try rw [hji19] at A18)
                have hji19_ : (if 1048576 < ((rd_T30 y169 (ji13)).f3) then 1048576 else ((rd_T30 y169 (ji13)).f3)) = ji19 := hji19
                obtain ⟨ji20, hji20⟩ : ∃ j_ : Int, (mx 1 (ji19)) = j_ := ⟨_, rfl⟩
                replace H : (if a3 = true then (pacelinelaw18_LbtsLater.j1 kj4 l0 ji13 y169 false ((rd_T30 y169 (ji13)).f1) t174 (wrap64 ((ji20) + (wrap64 (a2_3)))) ((rd_T30 y169 (ji13)).f4) t175 t176) else (pacelinelaw18_LbtsLater.j1 kj4 l0 ji13 y169 ((rd_T30 y169 (ji13)).f0) ((rd_T30 y169 (ji13)).f1) t174 (wrap64 ((ji20) + (wrap64 (a2_3)))) ((rd_T30 y169 (ji13)).f4) t175 t176)) = some r := by first | (rw [hji20] at H; exact H) | (simp only [hji20] at H ⊢; exact H)
                (try rw [hji20] at A16)
                (try rw [hji20] at A17)
                (try rw [hji20] at A18)
                have hji20_ : (if 1 < (ji19) then (ji19) else 1) = ji20 := hji20
                have HC21 := Aside0.mk H
                clear H
                go_upto_if 66 with (first | ((with_reducible refine gate_dst (N := 28) rfl ?_); (try (refine gate_guard (by rfl) ?_; dsimp only)); refine Kd.R_lit k30 _ 30 ?hg (N := 28) ?hd (xs := ([] : List (S30))) (inner := []) (ok := fun _ => True) (okp := fun _ => True) ?hr ?hp (fun _ hk => hk) trivial (Below.refl _ _) (Nat.le_refl _) (by simp) ?_; (case hd => rfl); (case hg => rfl); (case hr => first | (go_simp; done) | (go_simp; rfl)); (case hp => exact (Reps.none _ _)); intro v167 w22 ho23 hb hg_ hnew_; clear hg_ hnew_; (first | rw [← Ny166.out] at ho23 | (simp only [Int.reduceToNat] at ho23; rw [← Ny166.out] at ho23)); have n0_ := Aside0.mk (Kd.R_lower ho23 (below_size (by repeat (first | (with_reducible first | exact HB.out | apply below_alloc | apply pw_below_drewN | apply below_drew1 | refine below_set ?_ GE164.out) | exact HB.out)))); have n1_ := Aside0.mk (blk_below (g := gb164) (o := .cells #[.int .u16 a2_0, .int .u16 a2_1, .int .u16 a2_2, .int .u16 a2_3] 38 (0, 0)) (by (with_reducible repeat (first | refine blk_drewN ?_ _ | refine blk_drew ?_ | refine blk_alloc ?_ _)); exact BK164.out) hb); have n2_ := Aside0.mk (below_step (by repeat (first | (with_reducible first | exact HB.out | apply below_alloc | apply pw_below_drewN | apply below_drew1 | refine below_set ?_ GE164.out) | exact HB.out)) hb); clear BK164; clear HB; have HO168 := n0_; have BK164 := n1_; have HB := n2_; clear n0_ n1_ n2_; clear hb ho23) | ((with_reducible refine gate_builtin (b := .append) (xs := #[.tmp 29, .tmp 30]) rfl ?_); (try (refine gate_guard (by rfl) ?_; dsimp only)); at_builtin; refine Kd.R_append_rows k30 (w0 := w) w.heap.size rfl (.tmp 29) (.tmp 30) 22 30 (.agg #[(.bool false), (.bool false), (.int .i64 0), (.int .i64 0), (.int .i64 0), (.int .i64 0), (.int .i64 0)]) 48 rfl Try.underlying22 info30 rfl (by decide) (by omega) v167 y166 l0 _ _ _ (fun _ => True) (fun _ => False) rfl rfl ?aO ?aR (fun _ _ h => h) (fun _ h => h.elim) ?aF ?aB ?aS ?aL ?_; (case aR => repeat (first | exact (Kd.C_below HR0.out HB.out) | (with_reducible refine Kd.C_alloc ?_ _) | (with_reducible refine Kd.C_drewN ?_ _) | (with_reducible refine Kd.C_drew ?_))); (case aB => exact (by repeat (first | (with_reducible first | exact HB.out | apply below_alloc | apply pw_below_drewN | apply below_drew1 | refine below_set ?_ GE164.out) | exact HB.out))); (case aF => exact (fun _ _ => trivial)); (case aO => exact (by (with_reducible repeat (first | apply Kd.R_alloc | apply Kd.R_drewN | apply Kd.R_drew)); exact HO168.out)); (case aS => exact (below_size (by repeat (first | (with_reducible first | exact HB.out | apply below_alloc | apply pw_below_drewN | apply below_drew1 | refine below_set ?_ GE164.out) | exact HB.out)))); (case aL => have := LMc12.out; omega); intro v170 w24 ho hb hg hat; rw [← Ny169.out] at ho; have n0_ := Aside0.mk (blk_grown (g := gb164) (o := .cells #[.int .u16 a2_0, .int .u16 a2_1, .int .u16 a2_2, .int .u16 a2_3] 38 (0, 0)) (by (with_reducible repeat (first | refine blk_drewN ?_ _ | refine blk_drew ?_ | refine blk_alloc ?_ _)); exact BK164.out) hg (Kd.R_ne HO168.out BK164.out (by decide))); have n1_ := Aside0.mk (hb); have n2_ := Aside0.mk (ho); clear BK164; clear HB; clear HO168; have BK164 := n0_; have HB := n1_; have HO171 := n2_; clear n0_ n1_ n2_; clear ho hb hg hat; obtain ⟨Ao25, co25, eo25⟩ := Kd.R_slice HO171.out; subst eo25; have p172 : 0 ≤ ((ji13) : Int) := of_decide_eq_true (by first | (with_reducible assumption) | assumption); have q172 : (ji13) < (y169.length : Int) := of_decide_eq_true (by first | (with_reducible assumption) | assumption); obtain ⟨ad172, e172, hx172_0, hx172_1, hx172_2, hx172_3, hx172_4, hx172_5, hx172_6⟩ := at_T30 (Kd.R_reads' HO171.out).2.2 (ji13) p172 q172; cases e172; replace p172 := eq_true p172; replace q172 := eq_true q172) | ((with_reducible refine gate_dst (N := 11) rfl ?_); (try (refine gate_guard (by rfl) ?_; dsimp only)); refine box_event ?hg (N := 11) ?hd (cs := #[.bool false, .bool false, .int .i64 0, .int .i64 0, .int .i64 0, .int .i64 0, .int .i64 0]) (t := 30) ?hr ?_; (case hd => rfl); (case hg => rfl); (case hr => first | (go_simp; done) | (go_simp; rfl)); intro gb173 hg w26 hbox hb; have n0_ := Aside0.mk (Kd.R_below (Kd.R_elderB (by (with_reducible repeat (first | apply Kd.R_alloc | apply Kd.R_drewN | apply Kd.R_drew)); exact HO171.out) gb173 (Nat.le_of_eq hg.symm)) hb); have n1_ := Aside0.mk (blk_below (g := gb164) (o := .cells #[.int .u16 a2_0, .int .u16 a2_1, .int .u16 a2_2, .int .u16 a2_3] 38 (0, 0)) (by (with_reducible repeat (first | refine blk_drewN ?_ _ | refine blk_drew ?_ | refine blk_alloc ?_ _)); exact BK164.out) hb); have n2_ := Aside0.mk (below_step (by repeat (first | (with_reducible first | exact HB.out | apply below_alloc | apply pw_below_drewN | apply below_drew1 | refine below_set ?_ GE164.out) | exact HB.out)) hb); have n3_ := Aside0.mk (hbox); have n4_ := Aside0.mk ((by rw [hg]; exact (below_size (by repeat (first | (with_reducible first | exact HB.out | apply below_alloc | apply pw_below_drewN | apply below_drew1 | refine below_set ?_ GE164.out) | exact HB.out))) : w.heap.size ≤ gb173)); have n5_ := Aside0.mk ((by rw [hg]; exact (below_size (by repeat (first | (with_reducible first | exact HB.out | apply below_alloc | apply pw_below_drewN | apply below_drew1 | refine below_set ?_ GE164.out) | exact HB.out))) : w.heap.size ≤ gb173)); have n6_ := Aside0.mk ((by rw [hg]; exact Nat.ne_of_lt (blk_lt (g := gb164) (o := .cells #[.int .u16 a2_0, .int .u16 a2_1, .int .u16 a2_2, .int .u16 a2_3] 38 (0, 0)) (by (with_reducible repeat (first | refine blk_drewN ?_ _ | refine blk_drew ?_ | refine blk_alloc ?_ _)); exact BK164.out)) : gb164 ≠ gb173)); have n7_ := Aside0.mk ((by rw [hg]; exact Nat.ne_of_gt (blk_lt (g := gb164) (o := .cells #[.int .u16 a2_0, .int .u16 a2_1, .int .u16 a2_2, .int .u16 a2_3] 38 (0, 0)) (by (with_reducible repeat (first | refine blk_drewN ?_ _ | refine blk_drew ?_ | refine blk_alloc ?_ _)); exact BK164.out)) : gb173 ≠ gb164)); clear HO171; clear BK164; clear HB; have HO171 := n0_; have BK164 := n1_; have HB := n2_; have BK173 := n3_; have GW173 := n4_; have GE173 := n5_; have NB164_173 := n6_; have NB173_164 := n7_; clear n0_ n1_ n2_ n3_ n4_ n5_ n6_ n7_; clear hb hbox hg; have hnb27 := NB173_164.out; have hnc27 := NB164_173.out; have hcz28_0 : w26.cell? ⟨gb173, 0, none⟩ = some (.bool false) := (blk_cell BK173.out 0).trans rfl; have hcz28_1 : w26.cell? ⟨gb173, 1, none⟩ = some (.bool false) := (blk_cell BK173.out 1).trans rfl; have hcz28_2 : w26.cell? ⟨gb173, 2, none⟩ = some (.int .i64 0) := (blk_cell BK173.out 2).trans rfl; have hcz28_3 : w26.cell? ⟨gb173, 3, none⟩ = some (.int .i64 0) := (blk_cell BK173.out 3).trans rfl; have hcz28_4 : w26.cell? ⟨gb173, 4, none⟩ = some (.int .i64 0) := (blk_cell BK173.out 4).trans rfl; have hcz28_5 : w26.cell? ⟨gb173, 5, none⟩ = some (.int .i64 0) := (blk_cell BK173.out 5).trans rfl; have hcz28_6 : w26.cell? ⟨gb173, 6, none⟩ = some (.int .i64 0) := (blk_cell BK173.out 6).trans rfl; have hfz28_0 := blk_frozen BK173.out 0; have hfz28_1 := blk_frozen BK173.out 1; have hfz28_2 := blk_frozen BK173.out 2; have hfz28_3 := blk_frozen BK173.out 3; have hfz28_4 := blk_frozen BK173.out 4; have hfz28_5 := blk_frozen BK173.out 5; have hfz28_6 := blk_frozen BK173.out 6; have hcz29_0 : w26.cell? ⟨gb164, 0, none⟩ = some (.int .u16 a2_0) := (blk_cell BK164.out 0).trans rfl; have hcz29_1 : w26.cell? ⟨gb164, 1, none⟩ = some (.int .u16 a2_1) := (blk_cell BK164.out 1).trans rfl; have hcz29_2 : w26.cell? ⟨gb164, 2, none⟩ = some (.int .u16 a2_2) := (blk_cell BK164.out 2).trans rfl; have hcz29_3 : w26.cell? ⟨gb164, 3, none⟩ = some (.int .u16 a2_3) := (blk_cell BK164.out 3).trans rfl; have hfz29_0 := blk_frozen BK164.out 0; have hfz29_1 := blk_frozen BK164.out 1; have hfz29_2 := blk_frozen BK164.out 2; have hfz29_3 := blk_frozen BK164.out 3) | ((with_reducible refine gate_callee (f := 12) rfl ?_); refine goesL_ (some 41) rfl rfl Try.func12 (by kernel_rfl) rfl #[.int .i64 ((rd_T30 y169 (ji13)).f2), .int .i64 (wrap64 (a2_0))] rfl (by (try simp only [List.map_toArray, List.map_cons, List.map_nil]); first | done | (simp only [hji13]; rfl) | rfl | (simp only [List.length_drop, List.length_take]; rfl)) ?_; (with_reducible refine (pacelineref01_Add.calls ((rd_T30 y169 (ji13)).f2) (wrap64 (a2_0)) t174 _ A16.out).mono ?_); rintro e w' ⟨rfl, ⟨nd, rfl⟩⟩; refine ⟨_, rfl, ?_⟩) | ((with_reducible refine gate_callee (f := 12) rfl ?_); refine goesL_ (some 48) rfl rfl Try.func12 (by kernel_rfl) rfl #[.int .i64 ((rd_T30 y169 (ji13)).f5), .int .i64 (wrap64 (a2_1))] rfl (by (try simp only [List.map_toArray, List.map_cons, List.map_nil]); first | done | (simp only [hji13]; rfl) | rfl | (simp only [List.length_drop, List.length_take]; rfl)) ?_; (with_reducible refine (pacelineref01_Add.calls ((rd_T30 y169 (ji13)).f5) (wrap64 (a2_1)) t175 _ A17.out).mono ?_); rintro e w' ⟨rfl, ⟨nd, rfl⟩⟩; refine ⟨_, rfl, ?_⟩) | ((with_reducible refine gate_callee (f := 12) rfl ?_); refine goesL_ (some 55) rfl rfl Try.func12 (by kernel_rfl) rfl #[.int .i64 ((rd_T30 y169 (ji13)).f6), .int .i64 (wrap64 (a2_2))] rfl (by (try simp only [List.map_toArray, List.map_cons, List.map_nil]); first | done | (simp only [hji13]; rfl) | rfl | (simp only [List.length_drop, List.length_take]; rfl)) ?_; (with_reducible refine (pacelineref01_Add.calls ((rd_T30 y169 (ji13)).f6) (wrap64 (a2_2)) t176 _ A18.out).mono ?_); rintro e w' ⟨rfl, ⟨nd, rfl⟩⟩; refine ⟨_, rfl, ?_⟩))
                (try simp only [Act.put, List.setIfInBounds_toArray, List.set_cons_zero, List.set_cons_succ])
                go_cut [] (fun wc => ∃ (kq : Nat) (x174000_20 : Bool), Aside0 (pacelinelaw18_LbtsLater.j1 kq l0 ji13 y169 x174000_20 ((rd_T30 y169 (ji13)).f1) t174 (wrap64 ((ji20) + (wrap64 (a2_3)))) ((rd_T30 y169 (ji13)).f4) t175 t176 = some r) ∧ Aside0 (kq ≤ kj4) ∧ Aside0 (Kd.R k30 30 wc w.heap.size (fun k_ => k_ ≠ gb173) (.slice (some ad172) y169.length co25) y169) ∧ Aside0 (wc.heap[gb164]? = some (.cells #[.int .u16 a2_0, .int .u16 a2_1, .int .u16 a2_2, .int .u16 a2_3] 38 (0, 0))) ∧ Aside0 (wc.heap[gb173]? = some (.cells #[.bool x174000_20, .bool ((rd_T30 y169 (ji13)).f1), .int .i64 t174, .int .i64 (wrap64 ((ji20) + (wrap64 (a2_3)))), .int .i64 ((rd_T30 y169 (ji13)).f4), .int .i64 t175, .int .i64 t176] 30 (0, 0))) ∧ Aside0 (Below w.heap.size w wc))
                case first =>
                  have H := HC21.out
                  clear HC21
                  by_cases c30 : a3 = true
                  · subst c30
                    have H1 : (pacelinelaw18_LbtsLater.j1 kj4 l0 ji13 y169 false ((rd_T30 y169 (ji13)).f1) t174 (wrap64 ((ji20) + (wrap64 (a2_3)))) ((rd_T30 y169 (ji13)).f4) t175 t176) = some r := by rw [if_pos rfl] at H; exact H
                    clear H
                    have H := H1
                    clear H1
                    have H' := Aside0.mk H
                    clear H
                    have hnb31 := NB173_164.out
                    have hnc31 := NB164_173.out
                    have hcz32_0 : w26.cell? ⟨gb173, 0, none⟩ = some (.bool false) := (blk_cell BK173.out 0).trans rfl
                    have hcz32_1 : w26.cell? ⟨gb173, 1, none⟩ = some (.bool false) := (blk_cell BK173.out 1).trans rfl
                    have hcz32_2 : w26.cell? ⟨gb173, 2, none⟩ = some (.int .i64 0) := (blk_cell BK173.out 2).trans rfl
                    have hcz32_3 : w26.cell? ⟨gb173, 3, none⟩ = some (.int .i64 0) := (blk_cell BK173.out 3).trans rfl
                    have hcz32_4 : w26.cell? ⟨gb173, 4, none⟩ = some (.int .i64 0) := (blk_cell BK173.out 4).trans rfl
                    have hcz32_5 : w26.cell? ⟨gb173, 5, none⟩ = some (.int .i64 0) := (blk_cell BK173.out 5).trans rfl
                    have hcz32_6 : w26.cell? ⟨gb173, 6, none⟩ = some (.int .i64 0) := (blk_cell BK173.out 6).trans rfl
                    have hfz32_0 := blk_frozen BK173.out 0
                    have hfz32_1 := blk_frozen BK173.out 1
                    have hfz32_2 := blk_frozen BK173.out 2
                    have hfz32_3 := blk_frozen BK173.out 3
                    have hfz32_4 := blk_frozen BK173.out 4
                    have hfz32_5 := blk_frozen BK173.out 5
                    have hfz32_6 := blk_frozen BK173.out 6
                    go_wp2
                    go_meet
                    case rel =>
                      refine ⟨kj4, (false), ?_, ?_, ?_, ?_, ?_, ?_⟩
                      · exact H'
                      · exact ⟨by have := HJ4.out; first | omega | exact Nat.le_refl _⟩
                      · refine ⟨?_⟩
                        refine Kd.R_far ?_ (fun _ hk => hk) _
                        refine Kd.R_far ?_ (fun _ hk => hk) _
                        refine Kd.R_far ?_ (fun _ hk => hk) _
                        refine Kd.R_drewN ?_ _
                        refine Kd.R_far ?_ (fun _ hk => hk) _
                        refine Kd.R_drewN ?_ _
                        refine Kd.R_far ?_ (fun _ hk => hk) _
                        refine Kd.R_drewN ?_ _
                        refine Kd.R_far ?_ (fun _ hk => hk) _
                        refine Kd.R_far ?_ (fun _ hk => hk) _
                        refine Kd.R_far ?_ (fun _ hk => hk) _
                        refine Kd.R_far ?_ (fun _ hk => hk) _
                        refine Kd.R_far ?_ (fun _ hk => hk) _
                        refine Kd.R_far ?_ (fun _ hk => hk) _
                        refine Kd.R_far ?_ (fun _ hk => hk) _
                        exact Kd.R_mono HO171.out (fun k_ hk => hk.2)
                      · refine ⟨?_⟩
                        refine blk_far ?_ NB164_173.out _
                        refine blk_far ?_ NB164_173.out _
                        refine blk_far ?_ NB164_173.out _
                        refine blk_drewN ?_ _
                        refine blk_far ?_ NB164_173.out _
                        refine blk_drewN ?_ _
                        refine blk_far ?_ NB164_173.out _
                        refine blk_drewN ?_ _
                        refine blk_far ?_ NB164_173.out _
                        refine blk_far ?_ NB164_173.out _
                        refine blk_far ?_ NB164_173.out _
                        refine blk_far ?_ NB164_173.out _
                        refine blk_far ?_ NB164_173.out _
                        refine blk_far ?_ NB164_173.out _
                        refine blk_far ?_ NB164_173.out _
                        exact BK164.out
                      · refine ⟨?_⟩
                        refine blk_put (cs := #[.bool ((rd_T30 y169 (ji13)).f0), .bool ((rd_T30 y169 (ji13)).f1), .int .i64 t174, .int .i64 (wrap64 ((ji20) + (wrap64 (a2_3)))), .int .i64 ((rd_T30 y169 (ji13)).f4), .int .i64 t175, .int .i64 t176]) ?_ 0 _ rfl
                        refine blk_put (cs := #[.bool ((rd_T30 y169 (ji13)).f0), .bool ((rd_T30 y169 (ji13)).f1), .int .i64 t174, .int .i64 ((rd_T30 y169 (ji13)).f3), .int .i64 ((rd_T30 y169 (ji13)).f4), .int .i64 t175, .int .i64 t176]) ?_ 3 _ rfl
                        refine blk_put (cs := #[.bool ((rd_T30 y169 (ji13)).f0), .bool ((rd_T30 y169 (ji13)).f1), .int .i64 t174, .int .i64 ((rd_T30 y169 (ji13)).f3), .int .i64 ((rd_T30 y169 (ji13)).f4), .int .i64 t175, .int .i64 ((rd_T30 y169 (ji13)).f6)]) ?_ 6 _ rfl
                        refine blk_drewN ?_ _
                        refine blk_put (cs := #[.bool ((rd_T30 y169 (ji13)).f0), .bool ((rd_T30 y169 (ji13)).f1), .int .i64 t174, .int .i64 ((rd_T30 y169 (ji13)).f3), .int .i64 ((rd_T30 y169 (ji13)).f4), .int .i64 ((rd_T30 y169 (ji13)).f5), .int .i64 ((rd_T30 y169 (ji13)).f6)]) ?_ 5 _ rfl
                        refine blk_drewN ?_ _
                        refine blk_put (cs := #[.bool ((rd_T30 y169 (ji13)).f0), .bool ((rd_T30 y169 (ji13)).f1), .int .i64 ((rd_T30 y169 (ji13)).f2), .int .i64 ((rd_T30 y169 (ji13)).f3), .int .i64 ((rd_T30 y169 (ji13)).f4), .int .i64 ((rd_T30 y169 (ji13)).f5), .int .i64 ((rd_T30 y169 (ji13)).f6)]) ?_ 2 _ rfl
                        refine blk_drewN ?_ _
                        refine blk_put (cs := #[.bool ((rd_T30 y169 (ji13)).f0), .bool ((rd_T30 y169 (ji13)).f1), .int .i64 ((rd_T30 y169 (ji13)).f2), .int .i64 ((rd_T30 y169 (ji13)).f3), .int .i64 ((rd_T30 y169 (ji13)).f4), .int .i64 ((rd_T30 y169 (ji13)).f5), .int .i64 0]) ?_ 6 _ rfl
                        refine blk_put (cs := #[.bool ((rd_T30 y169 (ji13)).f0), .bool ((rd_T30 y169 (ji13)).f1), .int .i64 ((rd_T30 y169 (ji13)).f2), .int .i64 ((rd_T30 y169 (ji13)).f3), .int .i64 ((rd_T30 y169 (ji13)).f4), .int .i64 0, .int .i64 0]) ?_ 5 _ rfl
                        refine blk_put (cs := #[.bool ((rd_T30 y169 (ji13)).f0), .bool ((rd_T30 y169 (ji13)).f1), .int .i64 ((rd_T30 y169 (ji13)).f2), .int .i64 ((rd_T30 y169 (ji13)).f3), .int .i64 0, .int .i64 0, .int .i64 0]) ?_ 4 _ rfl
                        refine blk_put (cs := #[.bool ((rd_T30 y169 (ji13)).f0), .bool ((rd_T30 y169 (ji13)).f1), .int .i64 ((rd_T30 y169 (ji13)).f2), .int .i64 0, .int .i64 0, .int .i64 0, .int .i64 0]) ?_ 3 _ rfl
                        refine blk_put (cs := #[.bool ((rd_T30 y169 (ji13)).f0), .bool ((rd_T30 y169 (ji13)).f1), .int .i64 0, .int .i64 0, .int .i64 0, .int .i64 0, .int .i64 0]) ?_ 2 _ rfl
                        refine blk_put (cs := #[.bool ((rd_T30 y169 (ji13)).f0), .bool false, .int .i64 0, .int .i64 0, .int .i64 0, .int .i64 0, .int .i64 0]) ?_ 1 _ rfl
                        refine blk_put (cs := #[.bool false, .bool false, .int .i64 0, .int .i64 0, .int .i64 0, .int .i64 0, .int .i64 0]) ?_ 0 _ rfl
                        exact BK173.out
                      · refine ⟨?_⟩
                        refine below_set ?_ GE173.out
                        refine below_set ?_ GE173.out
                        refine below_set ?_ GE173.out
                        refine pw_below_drewN ?_ _
                        refine below_set ?_ GE173.out
                        refine pw_below_drewN ?_ _
                        refine below_set ?_ GE173.out
                        refine pw_below_drewN ?_ _
                        refine below_set ?_ GE173.out
                        refine below_set ?_ GE173.out
                        refine below_set ?_ GE173.out
                        refine below_set ?_ GE173.out
                        refine below_set ?_ GE173.out
                        refine below_set ?_ GE173.out
                        refine below_set ?_ GE173.out
                        exact HB.out
                  · replace c30 := Bool.eq_false_iff.mpr c30
                    subst c30
                    have H1 : (pacelinelaw18_LbtsLater.j1 kj4 l0 ji13 y169 ((rd_T30 y169 (ji13)).f0) ((rd_T30 y169 (ji13)).f1) t174 (wrap64 ((ji20) + (wrap64 (a2_3)))) ((rd_T30 y169 (ji13)).f4) t175 t176) = some r := by rw [if_neg (show ¬ (false = true) by decide)] at H; exact H
                    clear H
                    have H := H1
                    clear H1
                    have H' := Aside0.mk H
                    clear H
                    go_wp2
                    go_meet
                    case rel =>
                      refine ⟨kj4, ((rd_T30 y169 (ji13)).f0), ?_, ?_, ?_, ?_, ?_, ?_⟩
                      · exact H'
                      · exact ⟨by have := HJ4.out; first | omega | exact Nat.le_refl _⟩
                      · refine ⟨?_⟩
                        refine Kd.R_far ?_ (fun _ hk => hk) _
                        refine Kd.R_far ?_ (fun _ hk => hk) _
                        refine Kd.R_drewN ?_ _
                        refine Kd.R_far ?_ (fun _ hk => hk) _
                        refine Kd.R_drewN ?_ _
                        refine Kd.R_far ?_ (fun _ hk => hk) _
                        refine Kd.R_drewN ?_ _
                        refine Kd.R_far ?_ (fun _ hk => hk) _
                        refine Kd.R_far ?_ (fun _ hk => hk) _
                        refine Kd.R_far ?_ (fun _ hk => hk) _
                        refine Kd.R_far ?_ (fun _ hk => hk) _
                        refine Kd.R_far ?_ (fun _ hk => hk) _
                        refine Kd.R_far ?_ (fun _ hk => hk) _
                        refine Kd.R_far ?_ (fun _ hk => hk) _
                        exact Kd.R_mono HO171.out (fun k_ hk => hk.2)
                      · refine ⟨?_⟩
                        refine blk_far ?_ NB164_173.out _
                        refine blk_far ?_ NB164_173.out _
                        refine blk_drewN ?_ _
                        refine blk_far ?_ NB164_173.out _
                        refine blk_drewN ?_ _
                        refine blk_far ?_ NB164_173.out _
                        refine blk_drewN ?_ _
                        refine blk_far ?_ NB164_173.out _
                        refine blk_far ?_ NB164_173.out _
                        refine blk_far ?_ NB164_173.out _
                        refine blk_far ?_ NB164_173.out _
                        refine blk_far ?_ NB164_173.out _
                        refine blk_far ?_ NB164_173.out _
                        refine blk_far ?_ NB164_173.out _
                        exact BK164.out
                      · refine ⟨?_⟩
                        refine blk_put (cs := #[.bool ((rd_T30 y169 (ji13)).f0), .bool ((rd_T30 y169 (ji13)).f1), .int .i64 t174, .int .i64 ((rd_T30 y169 (ji13)).f3), .int .i64 ((rd_T30 y169 (ji13)).f4), .int .i64 t175, .int .i64 t176]) ?_ 3 _ rfl
                        refine blk_put (cs := #[.bool ((rd_T30 y169 (ji13)).f0), .bool ((rd_T30 y169 (ji13)).f1), .int .i64 t174, .int .i64 ((rd_T30 y169 (ji13)).f3), .int .i64 ((rd_T30 y169 (ji13)).f4), .int .i64 t175, .int .i64 ((rd_T30 y169 (ji13)).f6)]) ?_ 6 _ rfl
                        refine blk_drewN ?_ _
                        refine blk_put (cs := #[.bool ((rd_T30 y169 (ji13)).f0), .bool ((rd_T30 y169 (ji13)).f1), .int .i64 t174, .int .i64 ((rd_T30 y169 (ji13)).f3), .int .i64 ((rd_T30 y169 (ji13)).f4), .int .i64 ((rd_T30 y169 (ji13)).f5), .int .i64 ((rd_T30 y169 (ji13)).f6)]) ?_ 5 _ rfl
                        refine blk_drewN ?_ _
                        refine blk_put (cs := #[.bool ((rd_T30 y169 (ji13)).f0), .bool ((rd_T30 y169 (ji13)).f1), .int .i64 ((rd_T30 y169 (ji13)).f2), .int .i64 ((rd_T30 y169 (ji13)).f3), .int .i64 ((rd_T30 y169 (ji13)).f4), .int .i64 ((rd_T30 y169 (ji13)).f5), .int .i64 ((rd_T30 y169 (ji13)).f6)]) ?_ 2 _ rfl
                        refine blk_drewN ?_ _
                        refine blk_put (cs := #[.bool ((rd_T30 y169 (ji13)).f0), .bool ((rd_T30 y169 (ji13)).f1), .int .i64 ((rd_T30 y169 (ji13)).f2), .int .i64 ((rd_T30 y169 (ji13)).f3), .int .i64 ((rd_T30 y169 (ji13)).f4), .int .i64 ((rd_T30 y169 (ji13)).f5), .int .i64 0]) ?_ 6 _ rfl
                        refine blk_put (cs := #[.bool ((rd_T30 y169 (ji13)).f0), .bool ((rd_T30 y169 (ji13)).f1), .int .i64 ((rd_T30 y169 (ji13)).f2), .int .i64 ((rd_T30 y169 (ji13)).f3), .int .i64 ((rd_T30 y169 (ji13)).f4), .int .i64 0, .int .i64 0]) ?_ 5 _ rfl
                        refine blk_put (cs := #[.bool ((rd_T30 y169 (ji13)).f0), .bool ((rd_T30 y169 (ji13)).f1), .int .i64 ((rd_T30 y169 (ji13)).f2), .int .i64 ((rd_T30 y169 (ji13)).f3), .int .i64 0, .int .i64 0, .int .i64 0]) ?_ 4 _ rfl
                        refine blk_put (cs := #[.bool ((rd_T30 y169 (ji13)).f0), .bool ((rd_T30 y169 (ji13)).f1), .int .i64 ((rd_T30 y169 (ji13)).f2), .int .i64 0, .int .i64 0, .int .i64 0, .int .i64 0]) ?_ 3 _ rfl
                        refine blk_put (cs := #[.bool ((rd_T30 y169 (ji13)).f0), .bool ((rd_T30 y169 (ji13)).f1), .int .i64 0, .int .i64 0, .int .i64 0, .int .i64 0, .int .i64 0]) ?_ 2 _ rfl
                        refine blk_put (cs := #[.bool ((rd_T30 y169 (ji13)).f0), .bool false, .int .i64 0, .int .i64 0, .int .i64 0, .int .i64 0, .int .i64 0]) ?_ 1 _ rfl
                        refine blk_put (cs := #[.bool false, .bool false, .int .i64 0, .int .i64 0, .int .i64 0, .int .i64 0, .int .i64 0]) ?_ 0 _ rfl
                        exact BK173.out
                      · refine ⟨?_⟩
                        refine below_set ?_ GE173.out
                        refine below_set ?_ GE173.out
                        refine pw_below_drewN ?_ _
                        refine below_set ?_ GE173.out
                        refine pw_below_drewN ?_ _
                        refine below_set ?_ GE173.out
                        refine pw_below_drewN ?_ _
                        refine below_set ?_ GE173.out
                        refine below_set ?_ GE173.out
                        refine below_set ?_ GE173.out
                        refine below_set ?_ GE173.out
                        refine below_set ?_ GE173.out
                        refine below_set ?_ GE173.out
                        refine below_set ?_ GE173.out
                        exact HB.out
                case rest =>
                  clear HC21
                  try clear c1
                  try clear p1
                  try clear q1
                  try clear hx1
                  try clear c2
                  try clear p2
                  try clear c3
                  try clear c5
                  try clear p6
                  try clear c7
                  try clear c7b0
                  try clear c7b1
                  try clear c8
                  try clear c11
                  try clear c11b0
                  try clear c11b1
                  try clear c11b2
                  try clear c12
                  try clear c14
                  try clear c14b0
                  try clear c15
                  try clear c15b0
                  try clear p17
                  try clear q17
                  try clear hx17
                  try clear c27
                  try clear c30
                  try clear c31
                  try clear hcz28_0
                  try clear hcz28_1
                  try clear hcz28_2
                  try clear hcz28_3
                  try clear hcz28_4
                  try clear hcz28_5
                  try clear hcz28_6
                  try clear hcz29_0
                  try clear hcz29_1
                  try clear hcz29_2
                  try clear hcz29_3
                  try clear hcz32_0
                  try clear hcz32_1
                  try clear hcz32_2
                  try clear hcz32_3
                  try clear hcz32_4
                  try clear hcz32_5
                  try clear hcz32_6
                  try clear hfz28_0
                  try clear hfz28_1
                  try clear hfz28_2
                  try clear hfz28_3
                  try clear hfz28_4
                  try clear hfz28_5
                  try clear hfz28_6
                  try clear hfz29_0
                  try clear hfz29_1
                  try clear hfz29_2
                  try clear hfz29_3
                  try clear hfz32_0
                  try clear hfz32_1
                  try clear hfz32_2
                  try clear hfz32_3
                  try clear hfz32_4
                  try clear hfz32_5
                  try clear hfz32_6
                  try clear hx172_0
                  try clear hx172_1
                  try clear hx172_2
                  try clear hx172_3
                  try clear hx172_4
                  try clear hx172_5
                  try clear hx172_6
                  try clear p172
                  try clear p2
                  try clear q172
                  obtain ⟨kq, x174000_20, HA, HJ20, HO_10, BK164, BK173, HB⟩ := hcut
                  cases kq with
                  | zero => exact absurd HA.out (by simp [pacelinelaw18_LbtsLater.j1])
                  | succ kj20 =>
                    have H := HA.out
                    clear HA
                    simp only [pacelinelaw18_LbtsLater.j1] at H
                    by_cases c33 : 0 ≤ ji13
                    · rw [if_pos c33] at H
                      have c33b0 : decide (0 ≤ ji13) = true := decide_eq_true c33
                      clear c33
                      by_cases c34 : ji13 < (y169.length : Int)
                      · rw [if_pos c34] at H
                        have c34b0 : decide (ji13 < (y169.length : Int)) = true := decide_eq_true c34
                        clear c34
                        obtain ⟨y177, hy177⟩ : ∃ y_ : List (S30), y_ = (y169.set (ji13 : Int).toNat (⟨x174000_20, ((rd_T30 y169 (ji13)).f1), t174, (wrap64 ((ji20) + (wrap64 (a2_3)))), ((rd_T30 y169 (ji13)).f4), t175, t176⟩ : S30)) := ⟨_, rfl⟩
                        replace H : (pacelinelaw18_LbtsLater.l0 kj20 l0 y177 0) = some r := by first | (rw [hy177]; with_reducible exact H) | (have H2_ := (Option.bind_some _ _).symm.trans H; rw [hy177]; with_reducible exact H2_) | (have H2_ := (Option.bind_some _ _).symm.trans H; with_reducible exact H2_) | with_reducible exact H | (rw [hy177]; exact H) | exact H
                        have Ny177 := Aside0.mk hy177
                        clear hy177
                        have H' := Aside0.mk H
                        clear H
                        have hnb36 := NB173_164.out
                        have hnc36 := NB164_173.out
                        have hcz37_0 : wc.cell? ⟨gb173, 0, none⟩ = some (.bool x174000_20) := (blk_cell BK173.out 0).trans rfl
                        have hcz37_1 : wc.cell? ⟨gb173, 1, none⟩ = some (.bool ((rd_T30 y169 (ji13)).f1)) := (blk_cell BK173.out 1).trans rfl
                        have hcz37_2 : wc.cell? ⟨gb173, 2, none⟩ = some (.int .i64 t174) := (blk_cell BK173.out 2).trans rfl
                        have hcz37_3 : wc.cell? ⟨gb173, 3, none⟩ = some (.int .i64 (wrap64 ((ji20) + (wrap64 (a2_3))))) := (blk_cell BK173.out 3).trans rfl
                        have hcz37_4 : wc.cell? ⟨gb173, 4, none⟩ = some (.int .i64 ((rd_T30 y169 (ji13)).f4)) := (blk_cell BK173.out 4).trans rfl
                        have hcz37_5 : wc.cell? ⟨gb173, 5, none⟩ = some (.int .i64 t175) := (blk_cell BK173.out 5).trans rfl
                        have hcz37_6 : wc.cell? ⟨gb173, 6, none⟩ = some (.int .i64 t176) := (blk_cell BK173.out 6).trans rfl
                        have hfz37_0 := blk_frozen BK173.out 0
                        have hfz37_1 := blk_frozen BK173.out 1
                        have hfz37_2 := blk_frozen BK173.out 2
                        have hfz37_3 := blk_frozen BK173.out 3
                        have hfz37_4 := blk_frozen BK173.out 4
                        have hfz37_5 := blk_frozen BK173.out 5
                        have hfz37_6 := blk_frozen BK173.out 6
                        have p35 : 0 ≤ (ji13 : Int) := of_decide_eq_true (by first | (with_reducible assumption) | assumption)
                        have q35 : (ji13 : Int) < ((y169.length : Int) : Int) := of_decide_eq_true (by first | (with_reducible assumption) | assumption)
                        obtain ⟨go35, co35, eo35, gb35, gl35, cl35, HG35⟩ := Kd.R_form HO_10.out (by omega)
                        (first | cases eo35 | (injection eo35 with ea_ en_ ec_; (first | subst ea_ | (injection ea_ with ea_; subst ea_)); subst ec_; clear en_))
                        have GB35 := Aside0.mk gb35
                        have GG35 := Aside0.mk HG35
                        clear gb35 gl35 HG35
                        (first | simp only [add_plain] at hx172_0 | skip)
                        (first | simp only [add_plain] at hx172_1 | skip)
                        (first | simp only [add_plain] at hx172_2 | skip)
                        (first | simp only [add_plain] at hx172_3 | skip)
                        (first | simp only [add_plain] at hx172_4 | skip)
                        (first | simp only [add_plain] at hx172_5 | skip)
                        (first | simp only [add_plain] at hx172_6 | skip)
                        obtain ⟨ce35, hcl35, hM35, hcc35, hfr35⟩ := Kd.R_elem HO_10.out z30 (ji13 : Int) p35 q35
                        obtain rfl := k30_openM hM35
                        have hx35_0 : wc.cell? ⟨go35, (ji13 : Int).toNat * 7, none⟩ = some (.bool ((rd_T30 y169 ji13).f0)) := hcc35 0 _ rfl
                        have hx35_1 : wc.cell? ⟨go35, (ji13 : Int).toNat * 7 + 1, none⟩ = some (.bool ((rd_T30 y169 ji13).f1)) := hcc35 1 _ rfl
                        have hx35_2 : wc.cell? ⟨go35, (ji13 : Int).toNat * 7 + 2, none⟩ = some (.int .i64 ((rd_T30 y169 ji13).f2)) := hcc35 2 _ rfl
                        have hx35_3 : wc.cell? ⟨go35, (ji13 : Int).toNat * 7 + 3, none⟩ = some (.int .i64 ((rd_T30 y169 ji13).f3)) := hcc35 3 _ rfl
                        have hx35_4 : wc.cell? ⟨go35, (ji13 : Int).toNat * 7 + 4, none⟩ = some (.int .i64 ((rd_T30 y169 ji13).f4)) := hcc35 4 _ rfl
                        have hx35_5 : wc.cell? ⟨go35, (ji13 : Int).toNat * 7 + 5, none⟩ = some (.int .i64 ((rd_T30 y169 ji13).f5)) := hcc35 5 _ rfl
                        have hx35_6 : wc.cell? ⟨go35, (ji13 : Int).toNat * 7 + 6, none⟩ = some (.int .i64 ((rd_T30 y169 ji13).f6)) := hcc35 6 _ rfl
                        have hf35_0 : wc.frozen? ⟨go35, (ji13 : Int).toNat * 7, none⟩ = false := hfr35 0
                        have hf35_1 : wc.frozen? ⟨go35, (ji13 : Int).toNat * 7 + 1, none⟩ = false := hfr35 1
                        have hf35_2 : wc.frozen? ⟨go35, (ji13 : Int).toNat * 7 + 2, none⟩ = false := hfr35 2
                        have hf35_3 : wc.frozen? ⟨go35, (ji13 : Int).toNat * 7 + 3, none⟩ = false := hfr35 3
                        have hf35_4 : wc.frozen? ⟨go35, (ji13 : Int).toNat * 7 + 4, none⟩ = false := hfr35 4
                        have hf35_5 : wc.frozen? ⟨go35, (ji13 : Int).toNat * 7 + 5, none⟩ = false := hfr35 5
                        have hf35_6 : wc.frozen? ⟨go35, (ji13 : Int).toNat * 7 + 6, none⟩ = false := hfr35 6
                        clear hcl35 hcc35 hfr35 hM35
                        replace p35 := eq_true p35
                        replace q35 := eq_true q35
                        have HX38 := Aside0.mk (show Kd.R k30 30 wc w.heap.size (fun k_ => k_ ≠ gb173) (.slice (some ⟨go35, 0, none⟩) y169.length co25) y169 from (by (with_reducible repeat (first | apply Kd.R_alloc | apply Kd.R_drewN | apply Kd.R_drew)); exact HO_10.out))
                        obtain ⟨ce38, hcl38, hM38, hcc38, hfr38⟩ := Kd.R_elem HX38.out z30 (ji13 : Int) (of_decide_eq_true (by first | (with_reducible assumption) | assumption)) (by have h_ : (ji13 : Int) < ((y169.length : Int) : Int) := of_decide_eq_true (by first | (with_reducible assumption) | assumption); first | exact h_ | (have e_ := (Kd.R_reads' HO_10.out).1; omega) | simpa using h_)
                        obtain rfl := k30_openM hM38
                        have HP38 := Kd.R_seg HX38.out (ji13 : Int) (of_decide_eq_true (by first | (with_reducible assumption) | assumption)) (by have h_ : (ji13 : Int) < ((y169.length : Int) : Int) := of_decide_eq_true (by first | (with_reducible assumption) | assumption); first | exact h_ | (have e_ := (Kd.R_reads' HO_10.out).1; omega) | simpa using h_) (seg := [.bool x174000_20, .bool ((rd_T30 y169 (ji13)).f1), .int .i64 t174, .int .i64 (wrap64 ((ji20) + (wrap64 (a2_3)))), .int .i64 ((rd_T30 y169 (ji13)).f4), .int .i64 t175, .int .i64 t176]) (j := 0) hcl38 hcc38 (show 7 ≤ 7 from by decide) (x' := (⟨x174000_20, ((rd_T30 y169 (ji13)).f1), t174, (wrap64 ((ji20) + (wrap64 (a2_3)))), ((rd_T30 y169 (ji13)).f4), t175, t176⟩ : S30)) (k30_mkM _ _ _ (⟨x174000_20, ((rd_T30 y169 (ji13)).f1), t174, (wrap64 ((ji20) + (wrap64 (a2_3)))), ((rd_T30 y169 (ji13)).f4), t175, t176⟩ : S30) ) (fun _ hk => hk)
                        have hx38_0 := hcc38 0 _ rfl
                        (try simp only [show (k30).sz = 7 from rfl, Nat.mul_one, Nat.add_zero] at hx38_0)
                        have hf38_0 := hfr38 0
                        (try simp only [show (k30).sz = 7 from rfl, Nat.mul_one, Nat.add_zero] at hf38_0)
                        have hx38_1 := hcc38 1 _ rfl
                        (try simp only [show (k30).sz = 7 from rfl, Nat.mul_one, Nat.add_zero] at hx38_1)
                        have hf38_1 := hfr38 1
                        (try simp only [show (k30).sz = 7 from rfl, Nat.mul_one, Nat.add_zero] at hf38_1)
                        have hx38_2 := hcc38 2 _ rfl
                        (try simp only [show (k30).sz = 7 from rfl, Nat.mul_one, Nat.add_zero] at hx38_2)
                        have hf38_2 := hfr38 2
                        (try simp only [show (k30).sz = 7 from rfl, Nat.mul_one, Nat.add_zero] at hf38_2)
                        have hx38_3 := hcc38 3 _ rfl
                        (try simp only [show (k30).sz = 7 from rfl, Nat.mul_one, Nat.add_zero] at hx38_3)
                        have hf38_3 := hfr38 3
                        (try simp only [show (k30).sz = 7 from rfl, Nat.mul_one, Nat.add_zero] at hf38_3)
                        have hx38_4 := hcc38 4 _ rfl
                        (try simp only [show (k30).sz = 7 from rfl, Nat.mul_one, Nat.add_zero] at hx38_4)
                        have hf38_4 := hfr38 4
                        (try simp only [show (k30).sz = 7 from rfl, Nat.mul_one, Nat.add_zero] at hf38_4)
                        have hx38_5 := hcc38 5 _ rfl
                        (try simp only [show (k30).sz = 7 from rfl, Nat.mul_one, Nat.add_zero] at hx38_5)
                        have hf38_5 := hfr38 5
                        (try simp only [show (k30).sz = 7 from rfl, Nat.mul_one, Nat.add_zero] at hf38_5)
                        have hx38_6 := hcc38 6 _ rfl
                        (try simp only [show (k30).sz = 7 from rfl, Nat.mul_one, Nat.add_zero] at hx38_6)
                        have hf38_6 := hfr38 6
                        (try simp only [show (k30).sz = 7 from rfl, Nat.mul_one, Nat.add_zero] at hf38_6)
                        clear hcl38 hcc38 hfr38 hM38
                        go_wp2_with (first | ((with_reducible refine gate_store (t := 30) (p := 71) rfl ?_); refine store_event (t := 30) (p := 71) (v := ?vo_w39) (w1 := (((((((wc.setCell ⟨go35, (ji13 : Int).toNat * 7, none⟩ (.bool x174000_20)).setCell ⟨go35, (ji13 : Int).toNat * 7 + 1, none⟩ (.bool ((rd_T30 y169 (ji13)).f1))).setCell ⟨go35, (ji13 : Int).toNat * 7 + 2, none⟩ (.int .i64 t174)).setCell ⟨go35, (ji13 : Int).toNat * 7 + 3, none⟩ (.int .i64 (wrap64 ((ji20) + (wrap64 (a2_3)))))).setCell ⟨go35, (ji13 : Int).toNat * 7 + 4, none⟩ (.int .i64 ((rd_T30 y169 (ji13)).f4))).setCell ⟨go35, (ji13 : Int).toNat * 7 + 5, none⟩ (.int .i64 t175)).setCell ⟨go35, (ji13 : Int).toNat * 7 + 6, none⟩ (.int .i64 t176))) ?hg ?ho ?hn ?hr ?_; (case ho => rfl); (case hg => rfl); (case hn => rfl); (case hr => first | (go_simp; done) | (go_simp; rfl)); intro w39 hw; have hg : wc.grownBy w39 (some go35) := (by rw [hw]; exact HP38.2); have hp_ : Kd.R k30 30 w39 w.heap.size (fun k_ => k_ ≠ gb173) (.slice (some ⟨go35, 0, none⟩) y169.length co25) y177 := (by rw [hw, Ny177.out]; exact HP38.1); clear HP38; have n0_ := Aside0.mk (hp_); have n1_ := Aside0.mk (blk_grown (g := gb164) (o := .cells #[.int .u16 a2_0, .int .u16 a2_1, .int .u16 a2_2, .int .u16 a2_3] 38 (0, 0)) (by (with_reducible repeat (first | refine blk_drewN ?_ _ | refine blk_drew ?_ | refine blk_alloc ?_ _)); exact BK164.out) hg (Kd.R_ne HO_10.out BK164.out (by decide))); have n2_ := Aside0.mk (blk_grown (g := gb173) (o := .cells #[.bool x174000_20, .bool ((rd_T30 y169 (ji13)).f1), .int .i64 t174, .int .i64 (wrap64 ((ji20) + (wrap64 (a2_3)))), .int .i64 ((rd_T30 y169 (ji13)).f4), .int .i64 t175, .int .i64 t176] 30 (0, 0)) (by (with_reducible repeat (first | refine blk_drewN ?_ _ | refine blk_drew ?_ | refine blk_alloc ?_ _)); exact BK173.out) hg (Kd.R_away HO_10.out (fun _ hk => hk))); have n3_ := Aside0.mk ((by rw [hw]; exact below_set (below_set (below_set (below_set (below_set (below_set (below_set (HB.out) GB35.out) GB35.out) GB35.out) GB35.out) GB35.out) GB35.out) GB35.out : Below w.heap.size w w39)); clear HO_10; clear BK164; clear BK173; clear HB; have HO_10 := n0_; have BK164 := n1_; have BK173 := n2_; have HB := n3_; clear n0_ n1_ n2_ n3_; clear hg hw hp_))
                        go_loopg [12] kj20 (fun kq v12 w' => ∃ (x12_3 : Int), v12 = .int .i64 x12_3 ∧ Aside0 (pacelinelaw18_LbtsLater.l0 kq l0 y177 x12_3 = some r) ∧ Aside0 (kq ≤ kj20) ∧ Aside0 (Kd.R k30 30 w' w.heap.size (fun k_ => k_ ≠ gb173) (.slice (some ⟨go35, 0, none⟩) y169.length co25) y177) ∧ Aside0 (w'.heap[gb164]? = some (.cells #[.int .u16 a2_0, .int .u16 a2_1, .int .u16 a2_2, .int .u16 a2_3] 38 (0, 0))) ∧ Aside0 (w'.heap[gb173]? = some (.cells #[.bool x174000_20, .bool ((rd_T30 y169 (ji13)).f1), .int .i64 t174, .int .i64 (wrap64 ((ji20) + (wrap64 (a2_3)))), .int .i64 ((rd_T30 y169 (ji13)).f4), .int .i64 t175, .int .i64 t176] 30 (0, 0))) ∧ Aside0 (Below w.heap.size w w'))
                        case atStart => exact ⟨(0), (by first | rfl | (simp; done) | (simp [*]; done)), H', ⟨Nat.le_refl _⟩, ⟨by (with_reducible repeat (first | apply Kd.R_alloc | apply Kd.R_drewN | apply Kd.R_drew)); exact HO_10.out⟩, ⟨by (with_reducible repeat (first | refine blk_drewN ?_ _ | refine blk_drew ?_ | refine blk_alloc ?_ _)); exact BK164.out⟩, ⟨by (with_reducible repeat (first | refine blk_drewN ?_ _ | refine blk_drew ?_ | refine blk_alloc ?_ _)); exact BK173.out⟩, ⟨by repeat (first | (with_reducible first | exact HB.out | apply below_alloc | apply pw_below_drewN | apply below_drew1 | refine below_set ?_ GE164.out | refine below_set ?_ GE173.out) | exact HB.out)⟩⟩
                        case round =>
                          clear H'
                          try clear c1
                          try clear p1
                          try clear q1
                          try clear hx1
                          try clear c2
                          try clear p2
                          try clear c3
                          try clear p3
                          try clear q3
                          try clear hx3
                          try clear c5
                          try clear p6
                          try clear c7
                          try clear c7b0
                          try clear c7b1
                          try clear c8
                          try clear c11
                          try clear c11b0
                          try clear c11b1
                          try clear c11b2
                          try clear c12
                          try clear c14
                          try clear c14b0
                          try clear c15
                          try clear c15b0
                          try clear p17
                          try clear q17
                          try clear hx17
                          try clear c27
                          try clear c30
                          try clear c31
                          try clear c33
                          try clear c33b0
                          try clear c34
                          try clear c34b0
                          try clear c35
                          try clear p35
                          try clear q35
                          try clear hx35
                          try clear hf35
                          try clear c36
                          try clear c38
                          try clear hx38
                          try clear hf38
                          try clear hcz28_0
                          try clear hcz28_1
                          try clear hcz28_2
                          try clear hcz28_3
                          try clear hcz28_4
                          try clear hcz28_5
                          try clear hcz28_6
                          try clear hcz29_0
                          try clear hcz29_1
                          try clear hcz29_2
                          try clear hcz29_3
                          try clear hcz32_0
                          try clear hcz32_1
                          try clear hcz32_2
                          try clear hcz32_3
                          try clear hcz32_4
                          try clear hcz32_5
                          try clear hcz32_6
                          try clear hcz37_0
                          try clear hcz37_1
                          try clear hcz37_2
                          try clear hcz37_3
                          try clear hcz37_4
                          try clear hcz37_5
                          try clear hcz37_6
                          try clear hfz28_0
                          try clear hfz28_1
                          try clear hfz28_2
                          try clear hfz28_3
                          try clear hfz28_4
                          try clear hfz28_5
                          try clear hfz28_6
                          try clear hfz29_0
                          try clear hfz29_1
                          try clear hfz29_2
                          try clear hfz29_3
                          try clear hfz32_0
                          try clear hfz32_1
                          try clear hfz32_2
                          try clear hfz32_3
                          try clear hfz32_4
                          try clear hfz32_5
                          try clear hfz32_6
                          try clear hfz37_0
                          try clear hfz37_1
                          try clear hfz37_2
                          try clear hfz37_3
                          try clear hfz37_4
                          try clear hfz37_5
                          try clear hfz37_6
                          try clear hx172_0
                          try clear hx172_1
                          try clear hx172_2
                          try clear hx172_3
                          try clear hx172_4
                          try clear hx172_5
                          try clear hx172_6
                          try clear hx35_0
                          try clear hx35_1
                          try clear hx35_2
                          try clear hx35_3
                          try clear hx35_4
                          try clear hx35_5
                          try clear hx35_6
                          try clear hx38_0
                          try clear hx38_1
                          try clear hx38_2
                          try clear hx38_3
                          try clear hx38_4
                          try clear hx38_5
                          try clear hx38_6
                          try clear p1
                          try clear p17
                          try clear p172
                          try clear p2
                          try clear p35
                          try clear p6
                          try clear q1
                          try clear q17
                          try clear q172
                          try clear q35
                          obtain ⟨x12_3, rfl, HA, HK3, HO_10, BK164, BK173, HB⟩ := hrel
                          have hl10_3 := (Kd.R_reads' HO_10.out).1
                          rw [hl10_3] at HO_10
                          (try simp only [hl10_3])
                          (try simp only [hl10_3] at BK164)
                          (try simp only [hl10_3] at BK173)
                          cases gk with
                          | zero => exact absurd HA.out (by simp [pacelinelaw18_LbtsLater.l0])
                          | succ k3 =>
                            have H := HA.out
                            clear HA
                            simp only [pacelinelaw18_LbtsLater.l0] at H
                            by_cases c40 : x12_3 < (l0.length : Int)
                            · rw [if_pos c40] at H
                              have c40b0 : decide (x12_3 < (l0.length : Int)) = true := decide_eq_true c40
                              clear c40
                              replace H := Option.bind_eq_some_iff.mp H
                              obtain ⟨t178, A410, H⟩ := H
                              replace H : ((lbts_Lbts.f k3 l0 x12_3).bind fun t179 => (if t178 < t179 then (some false) else ((lbts_Lbts.f k3 l0 x12_3).bind fun t180 => ((pacelinelaw18_theirs.f k3 l0).bind fun t181 => ((pacelineref18_Lbts.f k3 t181 x12_3).bind fun t184 => (if t180 = t184 then (pacelinelaw18_LbtsLater.l0 k3 l0 y177 (wrap64 (x12_3 + 1))) else (some false))))))) = some r := H
                              have A41 := Aside0.mk A410
                              clear A410
                              replace H := Option.bind_eq_some_iff.mp H
                              obtain ⟨t179, A420, H⟩ := H
                              replace H : (if t178 < t179 then (some false) else ((lbts_Lbts.f k3 l0 x12_3).bind fun t180 => ((pacelinelaw18_theirs.f k3 l0).bind fun t181 => ((pacelineref18_Lbts.f k3 t181 x12_3).bind fun t184 => (if t180 = t184 then (pacelinelaw18_LbtsLater.l0 k3 l0 y177 (wrap64 (x12_3 + 1))) else (some false)))))) = some r := H
                              have A42 := Aside0.mk A420
                              clear A420
                              by_cases c43 : t178 < t179
                              · rw [if_pos c43] at H
                                have c43b0 : decide (t178 < t179) = true := decide_eq_true c43
                                clear c43
                                obtain rfl := Option.some.inj H
                                go_wp2_with (first | ((with_reducible refine gate_callee (f := 14) rfl ?_); refine goesL_ (some 80) rfl rfl Try.func14 (by kernel_rfl) rfl #[.slice (some ⟨go35, 0, none⟩) y177.length co25, .int .i64 x12_3] rfl (by (try simp only [List.map_toArray, List.map_cons, List.map_nil]); first | done | rfl | (simp only [List.length_drop, List.length_take]; rfl)) ?_; (with_reducible refine (lbts_Lbts.calls k3 _ _ y177 x12_3 t178 _ ?side1 ?side2 A41.out).mono ?_); (case side1 => repeat (first | exact (Kd.R_reads' HO_10.out).2.2 | (with_reducible refine Kd.C_alloc ?_ _) | (with_reducible refine Kd.C_drewN ?_ _) | (with_reducible refine Kd.C_drew ?_))); (case side2 => exact (Kd.R_reads' HO_10.out).2.1); rintro e w44 ⟨rfl, hb⟩; refine ⟨_, rfl, ?_⟩; have n0_ := Aside0.mk (Kd.R_below (by (with_reducible repeat (first | apply Kd.R_alloc | apply Kd.R_drewN | apply Kd.R_drew)); exact HO_10.out) hb); have n1_ := Aside0.mk (blk_below (g := gb164) (o := .cells #[.int .u16 a2_0, .int .u16 a2_1, .int .u16 a2_2, .int .u16 a2_3] 38 (0, 0)) (by (with_reducible repeat (first | refine blk_drewN ?_ _ | refine blk_drew ?_ | refine blk_alloc ?_ _)); exact BK164.out) hb); have n2_ := Aside0.mk (blk_below (g := gb173) (o := .cells #[.bool x174000_20, .bool ((rd_T30 y169 (ji13)).f1), .int .i64 t174, .int .i64 (wrap64 ((ji20) + (wrap64 (a2_3)))), .int .i64 ((rd_T30 y169 (ji13)).f4), .int .i64 t175, .int .i64 t176] 30 (0, 0)) (by (with_reducible repeat (first | refine blk_drewN ?_ _ | refine blk_drew ?_ | refine blk_alloc ?_ _)); exact BK173.out) hb); have n3_ := Aside0.mk (below_step (by repeat (first | (with_reducible first | exact HB.out | apply below_alloc | apply pw_below_drewN | apply below_drew1 | refine below_set ?_ GE164.out | refine below_set ?_ GE173.out) | exact HB.out)) hb); clear HO_10; clear BK164; clear BK173; clear HB; have HO_10 := n0_; have BK164 := n1_; have BK173 := n2_; have HB := n3_; clear n0_ n1_ n2_ n3_; (try clear hb); (try clear hb2); (try clear hk); (try clear hi)) | ((with_reducible refine gate_callee (f := 14) rfl ?_); refine goesL_ (some 83) rfl rfl Try.func14 (by kernel_rfl) rfl #[.slice A0 l0.length c0, .int .i64 x12_3] rfl (by (try simp only [List.map_toArray, List.map_cons, List.map_nil]); first | done | rfl | (simp only [List.length_drop, List.length_take]; rfl)) ?_; (with_reducible refine (lbts_Lbts.calls k3 _ _ l0 x12_3 t179 _ ?side1 ?side2 A42.out).mono ?_); (case side1 => repeat (first | exact (Kd.C_below HR0.out HB.out) | (with_reducible refine Kd.C_alloc ?_ _) | (with_reducible refine Kd.C_drewN ?_ _) | (with_reducible refine Kd.C_drew ?_))); (case side2 => exact HC0.out); rintro e w45 ⟨rfl, hb⟩; refine ⟨_, rfl, ?_⟩; have n0_ := Aside0.mk (Kd.R_below (by (with_reducible repeat (first | apply Kd.R_alloc | apply Kd.R_drewN | apply Kd.R_drew)); exact HO_10.out) hb); have n1_ := Aside0.mk (blk_below (g := gb164) (o := .cells #[.int .u16 a2_0, .int .u16 a2_1, .int .u16 a2_2, .int .u16 a2_3] 38 (0, 0)) (by (with_reducible repeat (first | refine blk_drewN ?_ _ | refine blk_drew ?_ | refine blk_alloc ?_ _)); exact BK164.out) hb); have n2_ := Aside0.mk (blk_below (g := gb173) (o := .cells #[.bool x174000_20, .bool ((rd_T30 y169 (ji13)).f1), .int .i64 t174, .int .i64 (wrap64 ((ji20) + (wrap64 (a2_3)))), .int .i64 ((rd_T30 y169 (ji13)).f4), .int .i64 t175, .int .i64 t176] 30 (0, 0)) (by (with_reducible repeat (first | refine blk_drewN ?_ _ | refine blk_drew ?_ | refine blk_alloc ?_ _)); exact BK173.out) hb); have n3_ := Aside0.mk (below_step (by repeat (first | (with_reducible first | exact HB.out | apply below_alloc | apply pw_below_drewN | apply below_drew1 | refine below_set ?_ GE164.out | refine below_set ?_ GE173.out) | exact HB.out)) hb); clear HO_10; clear BK164; clear BK173; clear HB; have HO_10 := n0_; have BK164 := n1_; have BK173 := n2_; have HB := n3_; clear n0_ n1_ n2_ n3_; (try clear hb); (try clear hb2); (try clear hk); (try clear hi)))
                                go_ret
                                exact ⟨by first | rfl | (simp [errW_none, errW_some] <;> rfl) | (simp only [← hji13, ← hji19, ← hji20]; first | rfl | (simp [errW_none, errW_some] <;> rfl)) | (simp [*, errW_none, errW_some] <;> rfl), by repeat (first | (with_reducible first | exact HB.out | apply below_alloc | apply pw_below_drewN | apply below_drew1 | refine below_set ?_ GE164.out | refine below_set ?_ GE173.out) | exact HB.out)⟩
                              · rw [if_neg c43] at H
                                have c43b0 : decide (t178 < t179) = false := decide_eq_false c43
                                clear c43
                                replace H := Option.bind_eq_some_iff.mp H
                                obtain ⟨t180, A460, H⟩ := H
                                replace H : ((pacelinelaw18_theirs.f k3 l0).bind fun t181 => ((pacelineref18_Lbts.f k3 t181 x12_3).bind fun t184 => (if t180 = t184 then (pacelinelaw18_LbtsLater.l0 k3 l0 y177 (wrap64 (x12_3 + 1))) else (some false)))) = some r := H
                                have A46 := Aside0.mk A460
                                clear A460
                                replace H := Option.bind_eq_some_iff.mp H
                                obtain ⟨t181, A470, H⟩ := H
                                replace H : ((pacelineref18_Lbts.f k3 t181 x12_3).bind fun t184 => (if t180 = t184 then (pacelinelaw18_LbtsLater.l0 k3 l0 y177 (wrap64 (x12_3 + 1))) else (some false))) = some r := H
                                have A47 := Aside0.mk A470
                                clear A470
                                replace H := Option.bind_eq_some_iff.mp H
                                obtain ⟨t184, A480, H⟩ := H
                                replace H : (if t180 = t184 then (pacelinelaw18_LbtsLater.l0 k3 l0 y177 (wrap64 (x12_3 + 1))) else (some false)) = some r := H
                                have A48 := Aside0.mk A480
                                clear A480
                                by_cases c49 : t180 = t184
                                · rw [if_pos c49] at H
                                  have c49b0 : (t180 == t184) = true := beq_iff_eq.mpr c49
                                  have c49b1 : (t180 != t184) = false := bne_eq_false_iff_eq.mpr c49
                                  clear c49
                                  have H' := Aside0.mk H
                                  clear H
                                  go_wp2_with (first | ((with_reducible refine gate_callee (f := 14) rfl ?_); refine goesL_ (some 80) rfl rfl Try.func14 (by kernel_rfl) rfl #[.slice (some ⟨go35, 0, none⟩) y177.length co25, .int .i64 x12_3] rfl (by (try simp only [List.map_toArray, List.map_cons, List.map_nil]); first | done | rfl | (simp only [List.length_drop, List.length_take]; rfl)) ?_; (with_reducible refine (lbts_Lbts.calls k3 _ _ y177 x12_3 t178 _ ?side1 ?side2 A41.out).mono ?_); (case side1 => repeat (first | exact (Kd.R_reads' HO_10.out).2.2 | (with_reducible refine Kd.C_alloc ?_ _) | (with_reducible refine Kd.C_drewN ?_ _) | (with_reducible refine Kd.C_drew ?_))); (case side2 => exact (Kd.R_reads' HO_10.out).2.1); rintro e w50 ⟨rfl, hb⟩; refine ⟨_, rfl, ?_⟩; have n0_ := Aside0.mk (Kd.R_below (by (with_reducible repeat (first | apply Kd.R_alloc | apply Kd.R_drewN | apply Kd.R_drew)); exact HO_10.out) hb); have n1_ := Aside0.mk (blk_below (g := gb164) (o := .cells #[.int .u16 a2_0, .int .u16 a2_1, .int .u16 a2_2, .int .u16 a2_3] 38 (0, 0)) (by (with_reducible repeat (first | refine blk_drewN ?_ _ | refine blk_drew ?_ | refine blk_alloc ?_ _)); exact BK164.out) hb); have n2_ := Aside0.mk (blk_below (g := gb173) (o := .cells #[.bool x174000_20, .bool ((rd_T30 y169 (ji13)).f1), .int .i64 t174, .int .i64 (wrap64 ((ji20) + (wrap64 (a2_3)))), .int .i64 ((rd_T30 y169 (ji13)).f4), .int .i64 t175, .int .i64 t176] 30 (0, 0)) (by (with_reducible repeat (first | refine blk_drewN ?_ _ | refine blk_drew ?_ | refine blk_alloc ?_ _)); exact BK173.out) hb); have n3_ := Aside0.mk (below_step (by repeat (first | (with_reducible first | exact HB.out | apply below_alloc | apply pw_below_drewN | apply below_drew1 | refine below_set ?_ GE164.out | refine below_set ?_ GE173.out) | exact HB.out)) hb); clear HO_10; clear BK164; clear BK173; clear HB; have HO_10 := n0_; have BK164 := n1_; have BK173 := n2_; have HB := n3_; clear n0_ n1_ n2_ n3_; (try clear hb); (try clear hb2); (try clear hk); (try clear hi)) | ((with_reducible refine gate_callee (f := 14) rfl ?_); refine goesL_ (some 83) rfl rfl Try.func14 (by kernel_rfl) rfl #[.slice A0 l0.length c0, .int .i64 x12_3] rfl (by (try simp only [List.map_toArray, List.map_cons, List.map_nil]); first | done | rfl | (simp only [List.length_drop, List.length_take]; rfl)) ?_; (with_reducible refine (lbts_Lbts.calls k3 _ _ l0 x12_3 t179 _ ?side1 ?side2 A42.out).mono ?_); (case side1 => repeat (first | exact (Kd.C_below HR0.out HB.out) | (with_reducible refine Kd.C_alloc ?_ _) | (with_reducible refine Kd.C_drewN ?_ _) | (with_reducible refine Kd.C_drew ?_))); (case side2 => exact HC0.out); rintro e w51 ⟨rfl, hb⟩; refine ⟨_, rfl, ?_⟩; have n0_ := Aside0.mk (Kd.R_below (by (with_reducible repeat (first | apply Kd.R_alloc | apply Kd.R_drewN | apply Kd.R_drew)); exact HO_10.out) hb); have n1_ := Aside0.mk (blk_below (g := gb164) (o := .cells #[.int .u16 a2_0, .int .u16 a2_1, .int .u16 a2_2, .int .u16 a2_3] 38 (0, 0)) (by (with_reducible repeat (first | refine blk_drewN ?_ _ | refine blk_drew ?_ | refine blk_alloc ?_ _)); exact BK164.out) hb); have n2_ := Aside0.mk (blk_below (g := gb173) (o := .cells #[.bool x174000_20, .bool ((rd_T30 y169 (ji13)).f1), .int .i64 t174, .int .i64 (wrap64 ((ji20) + (wrap64 (a2_3)))), .int .i64 ((rd_T30 y169 (ji13)).f4), .int .i64 t175, .int .i64 t176] 30 (0, 0)) (by (with_reducible repeat (first | refine blk_drewN ?_ _ | refine blk_drew ?_ | refine blk_alloc ?_ _)); exact BK173.out) hb); have n3_ := Aside0.mk (below_step (by repeat (first | (with_reducible first | exact HB.out | apply below_alloc | apply pw_below_drewN | apply below_drew1 | refine below_set ?_ GE164.out | refine below_set ?_ GE173.out) | exact HB.out)) hb); clear HO_10; clear BK164; clear BK173; clear HB; have HO_10 := n0_; have BK164 := n1_; have BK173 := n2_; have HB := n3_; clear n0_ n1_ n2_ n3_; (try clear hb); (try clear hb2); (try clear hk); (try clear hi)) | (go_at_call 14; (with_reducible refine (lbts_Lbts.calls k3 _ _ l0 x12_3 t180 _ ?side1 ?side2 A46.out).mono ?_); (case side1 => repeat (first | exact (Kd.C_below HR0.out HB.out) | (with_reducible refine Kd.C_alloc ?_ _) | (with_reducible refine Kd.C_drewN ?_ _) | (with_reducible refine Kd.C_drew ?_))); (case side2 => exact HC0.out); rintro e w52 ⟨rfl, hb⟩; have n0_ := Aside0.mk (Kd.R_below (by (with_reducible repeat (first | apply Kd.R_alloc | apply Kd.R_drewN | apply Kd.R_drew)); exact HO_10.out) hb); have n1_ := Aside0.mk (blk_below (g := gb164) (o := .cells #[.int .u16 a2_0, .int .u16 a2_1, .int .u16 a2_2, .int .u16 a2_3] 38 (0, 0)) (by (with_reducible repeat (first | refine blk_drewN ?_ _ | refine blk_drew ?_ | refine blk_alloc ?_ _)); exact BK164.out) hb); have n2_ := Aside0.mk (blk_below (g := gb173) (o := .cells #[.bool x174000_20, .bool ((rd_T30 y169 (ji13)).f1), .int .i64 t174, .int .i64 (wrap64 ((ji20) + (wrap64 (a2_3)))), .int .i64 ((rd_T30 y169 (ji13)).f4), .int .i64 t175, .int .i64 t176] 30 (0, 0)) (by (with_reducible repeat (first | refine blk_drewN ?_ _ | refine blk_drew ?_ | refine blk_alloc ?_ _)); exact BK173.out) hb); have n3_ := Aside0.mk (below_step (by repeat (first | (with_reducible first | exact HB.out | apply below_alloc | apply pw_below_drewN | apply below_drew1 | refine below_set ?_ GE164.out | refine below_set ?_ GE173.out) | exact HB.out)) hb); clear HO_10; clear BK164; clear BK173; clear HB; have HO_10 := n0_; have BK164 := n1_; have BK173 := n2_; have HB := n3_; clear n0_ n1_ n2_ n3_; (try clear hb); (try clear hb2); (try clear hk); (try clear hi)) | (go_at_call 11; (with_reducible refine (pacelinelaw18_theirs.calls k3 _ _ l0 t181 _ ?side1 ?side2 A47.out).mono ?_); (case side1 => repeat (first | exact (Kd.C_below HR0.out HB.out) | (with_reducible refine Kd.C_alloc ?_ _) | (with_reducible refine Kd.C_drewN ?_ _) | (with_reducible refine Kd.C_drew ?_))); (case side2 => exact HC0.out); rintro e w53 ⟨v182, rfl, ho0, hb⟩; have n0_ := Aside0.mk (Kd.R_below (by (with_reducible repeat (first | apply Kd.R_alloc | apply Kd.R_drewN | apply Kd.R_drew)); exact HO_10.out) hb); have n1_ := Aside0.mk (Kd.R_lower ho0 (below_size (by repeat (first | (with_reducible first | exact HB.out | apply below_alloc | apply pw_below_drewN | apply below_drew1 | refine below_set ?_ GE164.out | refine below_set ?_ GE173.out) | exact HB.out)))); have n2_ := Aside0.mk (blk_below (g := gb164) (o := .cells #[.int .u16 a2_0, .int .u16 a2_1, .int .u16 a2_2, .int .u16 a2_3] 38 (0, 0)) (by (with_reducible repeat (first | refine blk_drewN ?_ _ | refine blk_drew ?_ | refine blk_alloc ?_ _)); exact BK164.out) hb); have n3_ := Aside0.mk (blk_below (g := gb173) (o := .cells #[.bool x174000_20, .bool ((rd_T30 y169 (ji13)).f1), .int .i64 t174, .int .i64 (wrap64 ((ji20) + (wrap64 (a2_3)))), .int .i64 ((rd_T30 y169 (ji13)).f4), .int .i64 t175, .int .i64 t176] 30 (0, 0)) (by (with_reducible repeat (first | refine blk_drewN ?_ _ | refine blk_drew ?_ | refine blk_alloc ?_ _)); exact BK173.out) hb); have n4_ := Aside0.mk (below_step (by repeat (first | (with_reducible first | exact HB.out | apply below_alloc | apply pw_below_drewN | apply below_drew1 | refine below_set ?_ GE164.out | refine below_set ?_ GE173.out) | exact HB.out)) hb); clear HO_10; clear BK164; clear BK173; clear HB; have HO_10 := n0_; have HO183 := n1_; have BK164 := n2_; have BK173 := n3_; have HB := n4_; clear n0_ n1_ n2_ n3_ n4_; (try clear hb); (try clear hb2); (try clear hk); (try clear hi); (try clear ho0); obtain ⟨Ao54, co54, eo54⟩ := Kd.R_slice HO183.out; subst eo54) | (go_at_call 15; (with_reducible refine (pacelineref18_Lbts.calls k3 _ _ t181 x12_3 t184 _ ?side1 ?side2 A48.out).mono ?_); (case side1 => repeat (first | exact (Kd.R_reads' HO183.out).2.2 | (with_reducible refine Kd.C_alloc ?_ _) | (with_reducible refine Kd.C_drewN ?_ _) | (with_reducible refine Kd.C_drew ?_))); (case side2 => exact (Kd.R_reads' HO183.out).2.1); rintro e w55 ⟨rfl, hb⟩; have n0_ := Aside0.mk (Kd.R_below (by (with_reducible repeat (first | apply Kd.R_alloc | apply Kd.R_drewN | apply Kd.R_drew)); exact HO_10.out) hb); have n1_ := Aside0.mk (Kd.R_below (by (with_reducible repeat (first | apply Kd.R_alloc | apply Kd.R_drewN | apply Kd.R_drew)); exact HO183.out) hb); have n2_ := Aside0.mk (blk_below (g := gb164) (o := .cells #[.int .u16 a2_0, .int .u16 a2_1, .int .u16 a2_2, .int .u16 a2_3] 38 (0, 0)) (by (with_reducible repeat (first | refine blk_drewN ?_ _ | refine blk_drew ?_ | refine blk_alloc ?_ _)); exact BK164.out) hb); have n3_ := Aside0.mk (blk_below (g := gb173) (o := .cells #[.bool x174000_20, .bool ((rd_T30 y169 (ji13)).f1), .int .i64 t174, .int .i64 (wrap64 ((ji20) + (wrap64 (a2_3)))), .int .i64 ((rd_T30 y169 (ji13)).f4), .int .i64 t175, .int .i64 t176] 30 (0, 0)) (by (with_reducible repeat (first | refine blk_drewN ?_ _ | refine blk_drew ?_ | refine blk_alloc ?_ _)); exact BK173.out) hb); have n4_ := Aside0.mk (below_step (by repeat (first | (with_reducible first | exact HB.out | apply below_alloc | apply pw_below_drewN | apply below_drew1 | refine below_set ?_ GE164.out | refine below_set ?_ GE173.out) | exact HB.out)) hb); clear HO_10; clear HO183; clear BK164; clear BK173; clear HB; have HO_10 := n0_; have HO183 := n1_; have BK164 := n2_; have BK173 := n3_; have HB := n4_; clear n0_ n1_ n2_ n3_ n4_; (try clear hb); (try clear hb2); (try clear hk); (try clear hi)))
                                  (try simp only [← hl10_3])
                                  go_roundg k3
                                  case measure => have := HJ4.out; have := HJ20.out; have := HK3.out; omega
                                  case rel => exact ⟨(wrap64 (x12_3 + 1)), (by first | rfl | (simp; done) | (simp [*]; done)), H', ⟨by have := HJ4.out; have := HJ20.out; have := HK3.out; omega⟩, ⟨by (try simp only [hl10_3]); (with_reducible repeat (first | apply Kd.R_alloc | apply Kd.R_drewN | apply Kd.R_drew)); exact HO_10.out⟩, ⟨by (try simp only [hl10_3]); (with_reducible repeat (first | refine blk_drewN ?_ _ | refine blk_drew ?_ | refine blk_alloc ?_ _)); exact BK164.out⟩, ⟨by (try simp only [hl10_3]); (with_reducible repeat (first | refine blk_drewN ?_ _ | refine blk_drew ?_ | refine blk_alloc ?_ _)); exact BK173.out⟩, ⟨by repeat (first | (with_reducible first | exact HB.out | apply below_alloc | apply pw_below_drewN | apply below_drew1 | refine below_set ?_ GE164.out | refine below_set ?_ GE173.out) | exact HB.out)⟩⟩
                                · rw [if_neg c49] at H
                                  have c49b0 : (t180 == t184) = false := beq_eq_false_iff_ne.mpr c49
                                  have c49b1 : (t180 != t184) = true := bne_iff_ne.mpr c49
                                  obtain rfl := Option.some.inj H
                                  go_wp2_with (first | ((with_reducible refine gate_callee (f := 14) rfl ?_); refine goesL_ (some 80) rfl rfl Try.func14 (by kernel_rfl) rfl #[.slice (some ⟨go35, 0, none⟩) y177.length co25, .int .i64 x12_3] rfl (by (try simp only [List.map_toArray, List.map_cons, List.map_nil]); first | done | rfl | (simp only [List.length_drop, List.length_take]; rfl)) ?_; (with_reducible refine (lbts_Lbts.calls k3 _ _ y177 x12_3 t178 _ ?side1 ?side2 A41.out).mono ?_); (case side1 => repeat (first | exact (Kd.R_reads' HO_10.out).2.2 | (with_reducible refine Kd.C_alloc ?_ _) | (with_reducible refine Kd.C_drewN ?_ _) | (with_reducible refine Kd.C_drew ?_))); (case side2 => exact (Kd.R_reads' HO_10.out).2.1); rintro e w56 ⟨rfl, hb⟩; refine ⟨_, rfl, ?_⟩; have n0_ := Aside0.mk (Kd.R_below (by (with_reducible repeat (first | apply Kd.R_alloc | apply Kd.R_drewN | apply Kd.R_drew)); exact HO_10.out) hb); have n1_ := Aside0.mk (blk_below (g := gb164) (o := .cells #[.int .u16 a2_0, .int .u16 a2_1, .int .u16 a2_2, .int .u16 a2_3] 38 (0, 0)) (by (with_reducible repeat (first | refine blk_drewN ?_ _ | refine blk_drew ?_ | refine blk_alloc ?_ _)); exact BK164.out) hb); have n2_ := Aside0.mk (blk_below (g := gb173) (o := .cells #[.bool x174000_20, .bool ((rd_T30 y169 (ji13)).f1), .int .i64 t174, .int .i64 (wrap64 ((ji20) + (wrap64 (a2_3)))), .int .i64 ((rd_T30 y169 (ji13)).f4), .int .i64 t175, .int .i64 t176] 30 (0, 0)) (by (with_reducible repeat (first | refine blk_drewN ?_ _ | refine blk_drew ?_ | refine blk_alloc ?_ _)); exact BK173.out) hb); have n3_ := Aside0.mk (below_step (by repeat (first | (with_reducible first | exact HB.out | apply below_alloc | apply pw_below_drewN | apply below_drew1 | refine below_set ?_ GE164.out | refine below_set ?_ GE173.out) | exact HB.out)) hb); clear HO_10; clear BK164; clear BK173; clear HB; have HO_10 := n0_; have BK164 := n1_; have BK173 := n2_; have HB := n3_; clear n0_ n1_ n2_ n3_; (try clear hb); (try clear hb2); (try clear hk); (try clear hi)) | ((with_reducible refine gate_callee (f := 14) rfl ?_); refine goesL_ (some 83) rfl rfl Try.func14 (by kernel_rfl) rfl #[.slice A0 l0.length c0, .int .i64 x12_3] rfl (by (try simp only [List.map_toArray, List.map_cons, List.map_nil]); first | done | rfl | (simp only [List.length_drop, List.length_take]; rfl)) ?_; (with_reducible refine (lbts_Lbts.calls k3 _ _ l0 x12_3 t179 _ ?side1 ?side2 A42.out).mono ?_); (case side1 => repeat (first | exact (Kd.C_below HR0.out HB.out) | (with_reducible refine Kd.C_alloc ?_ _) | (with_reducible refine Kd.C_drewN ?_ _) | (with_reducible refine Kd.C_drew ?_))); (case side2 => exact HC0.out); rintro e w57 ⟨rfl, hb⟩; refine ⟨_, rfl, ?_⟩; have n0_ := Aside0.mk (Kd.R_below (by (with_reducible repeat (first | apply Kd.R_alloc | apply Kd.R_drewN | apply Kd.R_drew)); exact HO_10.out) hb); have n1_ := Aside0.mk (blk_below (g := gb164) (o := .cells #[.int .u16 a2_0, .int .u16 a2_1, .int .u16 a2_2, .int .u16 a2_3] 38 (0, 0)) (by (with_reducible repeat (first | refine blk_drewN ?_ _ | refine blk_drew ?_ | refine blk_alloc ?_ _)); exact BK164.out) hb); have n2_ := Aside0.mk (blk_below (g := gb173) (o := .cells #[.bool x174000_20, .bool ((rd_T30 y169 (ji13)).f1), .int .i64 t174, .int .i64 (wrap64 ((ji20) + (wrap64 (a2_3)))), .int .i64 ((rd_T30 y169 (ji13)).f4), .int .i64 t175, .int .i64 t176] 30 (0, 0)) (by (with_reducible repeat (first | refine blk_drewN ?_ _ | refine blk_drew ?_ | refine blk_alloc ?_ _)); exact BK173.out) hb); have n3_ := Aside0.mk (below_step (by repeat (first | (with_reducible first | exact HB.out | apply below_alloc | apply pw_below_drewN | apply below_drew1 | refine below_set ?_ GE164.out | refine below_set ?_ GE173.out) | exact HB.out)) hb); clear HO_10; clear BK164; clear BK173; clear HB; have HO_10 := n0_; have BK164 := n1_; have BK173 := n2_; have HB := n3_; clear n0_ n1_ n2_ n3_; (try clear hb); (try clear hb2); (try clear hk); (try clear hi)) | (go_at_call 14; (with_reducible refine (lbts_Lbts.calls k3 _ _ l0 x12_3 t180 _ ?side1 ?side2 A46.out).mono ?_); (case side1 => repeat (first | exact (Kd.C_below HR0.out HB.out) | (with_reducible refine Kd.C_alloc ?_ _) | (with_reducible refine Kd.C_drewN ?_ _) | (with_reducible refine Kd.C_drew ?_))); (case side2 => exact HC0.out); rintro e w58 ⟨rfl, hb⟩; have n0_ := Aside0.mk (Kd.R_below (by (with_reducible repeat (first | apply Kd.R_alloc | apply Kd.R_drewN | apply Kd.R_drew)); exact HO_10.out) hb); have n1_ := Aside0.mk (blk_below (g := gb164) (o := .cells #[.int .u16 a2_0, .int .u16 a2_1, .int .u16 a2_2, .int .u16 a2_3] 38 (0, 0)) (by (with_reducible repeat (first | refine blk_drewN ?_ _ | refine blk_drew ?_ | refine blk_alloc ?_ _)); exact BK164.out) hb); have n2_ := Aside0.mk (blk_below (g := gb173) (o := .cells #[.bool x174000_20, .bool ((rd_T30 y169 (ji13)).f1), .int .i64 t174, .int .i64 (wrap64 ((ji20) + (wrap64 (a2_3)))), .int .i64 ((rd_T30 y169 (ji13)).f4), .int .i64 t175, .int .i64 t176] 30 (0, 0)) (by (with_reducible repeat (first | refine blk_drewN ?_ _ | refine blk_drew ?_ | refine blk_alloc ?_ _)); exact BK173.out) hb); have n3_ := Aside0.mk (below_step (by repeat (first | (with_reducible first | exact HB.out | apply below_alloc | apply pw_below_drewN | apply below_drew1 | refine below_set ?_ GE164.out | refine below_set ?_ GE173.out) | exact HB.out)) hb); clear HO_10; clear BK164; clear BK173; clear HB; have HO_10 := n0_; have BK164 := n1_; have BK173 := n2_; have HB := n3_; clear n0_ n1_ n2_ n3_; (try clear hb); (try clear hb2); (try clear hk); (try clear hi)) | (go_at_call 11; (with_reducible refine (pacelinelaw18_theirs.calls k3 _ _ l0 t181 _ ?side1 ?side2 A47.out).mono ?_); (case side1 => repeat (first | exact (Kd.C_below HR0.out HB.out) | (with_reducible refine Kd.C_alloc ?_ _) | (with_reducible refine Kd.C_drewN ?_ _) | (with_reducible refine Kd.C_drew ?_))); (case side2 => exact HC0.out); rintro e w59 ⟨v182, rfl, ho0, hb⟩; have n0_ := Aside0.mk (Kd.R_below (by (with_reducible repeat (first | apply Kd.R_alloc | apply Kd.R_drewN | apply Kd.R_drew)); exact HO_10.out) hb); have n1_ := Aside0.mk (Kd.R_lower ho0 (below_size (by repeat (first | (with_reducible first | exact HB.out | apply below_alloc | apply pw_below_drewN | apply below_drew1 | refine below_set ?_ GE164.out | refine below_set ?_ GE173.out) | exact HB.out)))); have n2_ := Aside0.mk (blk_below (g := gb164) (o := .cells #[.int .u16 a2_0, .int .u16 a2_1, .int .u16 a2_2, .int .u16 a2_3] 38 (0, 0)) (by (with_reducible repeat (first | refine blk_drewN ?_ _ | refine blk_drew ?_ | refine blk_alloc ?_ _)); exact BK164.out) hb); have n3_ := Aside0.mk (blk_below (g := gb173) (o := .cells #[.bool x174000_20, .bool ((rd_T30 y169 (ji13)).f1), .int .i64 t174, .int .i64 (wrap64 ((ji20) + (wrap64 (a2_3)))), .int .i64 ((rd_T30 y169 (ji13)).f4), .int .i64 t175, .int .i64 t176] 30 (0, 0)) (by (with_reducible repeat (first | refine blk_drewN ?_ _ | refine blk_drew ?_ | refine blk_alloc ?_ _)); exact BK173.out) hb); have n4_ := Aside0.mk (below_step (by repeat (first | (with_reducible first | exact HB.out | apply below_alloc | apply pw_below_drewN | apply below_drew1 | refine below_set ?_ GE164.out | refine below_set ?_ GE173.out) | exact HB.out)) hb); clear HO_10; clear BK164; clear BK173; clear HB; have HO_10 := n0_; have HO183 := n1_; have BK164 := n2_; have BK173 := n3_; have HB := n4_; clear n0_ n1_ n2_ n3_ n4_; (try clear hb); (try clear hb2); (try clear hk); (try clear hi); (try clear ho0); obtain ⟨Ao60, co60, eo60⟩ := Kd.R_slice HO183.out; subst eo60) | (go_at_call 15; (with_reducible refine (pacelineref18_Lbts.calls k3 _ _ t181 x12_3 t184 _ ?side1 ?side2 A48.out).mono ?_); (case side1 => repeat (first | exact (Kd.R_reads' HO183.out).2.2 | (with_reducible refine Kd.C_alloc ?_ _) | (with_reducible refine Kd.C_drewN ?_ _) | (with_reducible refine Kd.C_drew ?_))); (case side2 => exact (Kd.R_reads' HO183.out).2.1); rintro e w61 ⟨rfl, hb⟩; have n0_ := Aside0.mk (Kd.R_below (by (with_reducible repeat (first | apply Kd.R_alloc | apply Kd.R_drewN | apply Kd.R_drew)); exact HO_10.out) hb); have n1_ := Aside0.mk (Kd.R_below (by (with_reducible repeat (first | apply Kd.R_alloc | apply Kd.R_drewN | apply Kd.R_drew)); exact HO183.out) hb); have n2_ := Aside0.mk (blk_below (g := gb164) (o := .cells #[.int .u16 a2_0, .int .u16 a2_1, .int .u16 a2_2, .int .u16 a2_3] 38 (0, 0)) (by (with_reducible repeat (first | refine blk_drewN ?_ _ | refine blk_drew ?_ | refine blk_alloc ?_ _)); exact BK164.out) hb); have n3_ := Aside0.mk (blk_below (g := gb173) (o := .cells #[.bool x174000_20, .bool ((rd_T30 y169 (ji13)).f1), .int .i64 t174, .int .i64 (wrap64 ((ji20) + (wrap64 (a2_3)))), .int .i64 ((rd_T30 y169 (ji13)).f4), .int .i64 t175, .int .i64 t176] 30 (0, 0)) (by (with_reducible repeat (first | refine blk_drewN ?_ _ | refine blk_drew ?_ | refine blk_alloc ?_ _)); exact BK173.out) hb); have n4_ := Aside0.mk (below_step (by repeat (first | (with_reducible first | exact HB.out | apply below_alloc | apply pw_below_drewN | apply below_drew1 | refine below_set ?_ GE164.out | refine below_set ?_ GE173.out) | exact HB.out)) hb); clear HO_10; clear HO183; clear BK164; clear BK173; clear HB; have HO_10 := n0_; have HO183 := n1_; have BK164 := n2_; have BK173 := n3_; have HB := n4_; clear n0_ n1_ n2_ n3_ n4_; (try clear hb); (try clear hb2); (try clear hk); (try clear hi)))
                                  go_ret
                                  exact ⟨by first | rfl | (simp [errW_none, errW_some] <;> rfl) | (simp only [← hji13, ← hji19, ← hji20]; first | rfl | (simp [errW_none, errW_some] <;> rfl)) | (simp [*, errW_none, errW_some] <;> rfl), by repeat (first | (with_reducible first | exact HB.out | apply below_alloc | apply pw_below_drewN | apply below_drew1 | refine below_set ?_ GE164.out | refine below_set ?_ GE173.out) | exact HB.out)⟩
                            · rw [if_neg c40] at H
                              have c40b0 : decide (x12_3 < (l0.length : Int)) = false := decide_eq_false c40
                              clear c40
                              obtain rfl := Option.some.inj H
                              go_wp2
                              go_ret
                              exact ⟨by first | rfl | (simp [errW_none, errW_some] <;> rfl) | (simp only [← hji13, ← hji19, ← hji20]; first | rfl | (simp [errW_none, errW_some] <;> rfl)) | (simp [*, errW_none, errW_some] <;> rfl), by repeat (first | (with_reducible first | exact HB.out | apply below_alloc | apply pw_below_drewN | apply below_drew1 | refine below_set ?_ GE164.out | refine below_set ?_ GE173.out) | exact HB.out)⟩
                      · rw [if_neg c34] at H
                        exact absurd H (by simp)
                    · rw [if_neg c33] at H
                      exact absurd H (by simp)
              · rw [if_neg c15] at H
                exact absurd H (by simp)
            · rw [if_neg c14] at H
              exact absurd H (by simp)
          · rw [if_neg c12] at H
            exact absurd H (by simp)

/-- THE ONE PURE STATEMENT of pacelinelaw18_LbtsLater. -/
def pacelinelaw18_LbtsLater.Pure : Prop := ∀ (l0 : List (S30)) (a1 : Int) (a2_0 : Int) (a2_1 : Int) (a2_2 : Int) (a2_3 : Int) (a3 : Bool), OkAll (ok30) l0 → (Lit.int .u8 a1).wf = true → (Lit.int .u16 a2_0).wf = true → (Lit.int .u16 a2_1).wf = true → (Lit.int .u16 a2_2).wf = true → (Lit.int .u16 a2_3).wf = true → ∃ k, pacelinelaw18_LbtsLater.f k l0 a1 a2_0 a2_1 a2_2 a2_3 a3 = some true

end Go.Proofs.Yteomcpdfbaglaaa.PLbtsLater
