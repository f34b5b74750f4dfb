-- Written by gp.py (this project's driver over the kit's print) out of the translation and wip/given; Lean checks it.
import Derived.Test.YteomcpdfbaglaaaPLbtsGreatestx0
import Derived.Test.YteomcpdfbaglaaaPLbtsGreatestx3
namespace Go.Proofs.Yteomcpdfbaglaaa.PLbtsGreatest
open Go.RowKit Go.Proofs.YteomcpdfbaglaaaR Go.Proofs.YteomcpdfbaglaaaW.PrintWords Go.Proofs.YteomcpdfbaglaaaW.PrintLast Go.Proofs.YteomcpdfbaglaaaW.PrintMore
attribute [local go_sem] max2_int min2_int max_two min_two max_three min_three max_four min_four   -- for this text's walks alone
set_option linter.unusedVariables false
set_option linter.unusedSimpArgs false

/-! ### pacelinelaw18_fit: function 13 -/
mutual
def pacelinelaw18_fit.l0 : Nat → List (S30) → List Int → Int → Int → Int → Bool → Bool → Int → Int → Int → Int → Int → Option (Bool)
  | 0, _, _, _, _, _, _, _, _, _, _, _, _ => none
  | k + 1, x0, x1, x2, x8, x9, x157000, x157001, x157002, x157003, x157004, x157005, x157006 => if x9 < (x0.length : Int) then (if x9 = x2 then (pacelinelaw18_fit.l0 k x0 x1 x2 x8 (wrap64 (x9 + 1)) x157000 x157001 x157002 x157003 x157004 x157005 x157006) else (if 0 ≤ x9 then (if (rd_T30 x0 x9).f0 = true then (if x9 < (x1.length : Int) then (pacelinelaw18_fit.l0 k x0 x1 x2 (mn x8 (rd x1 x9)) (wrap64 (x9 + 1)) x157000 x157001 x157002 x157003 x157004 x157005 x157006) else (none)) else (pacelinelaw18_fit.l0 k x0 x1 x2 x8 (wrap64 (x9 + 1)) x157000 x157001 x157002 x157003 x157004 x157005 x157006)) else (none))) else ((pacelineref01_Add.f x157002 0).bind fun t160 => ((pacelineref01_Add.f x157005 0).bind fun t161 => (if x157004 = 1 then (pacelinelaw18_fit.j1 k x1 x2 x8 t160 t161 t160 true x157000 x157001 x157002 x157003 x157004 x157005 x157006) else (if x157004 = 2 then (pacelinelaw18_fit.j1 k x1 x2 x8 t160 t161 t160 (!x157001) x157000 x157001 x157002 x157003 x157004 x157005 x157006) else (if x157004 = 3 then (pacelinelaw18_fit.j1 k x1 x2 x8 t160 t161 t160 (!x157001) x157000 x157001 x157002 x157003 x157004 x157005 x157006) else (pacelinelaw18_fit.j1 k x1 x2 x8 t160 t161 t160 false x157000 x157001 x157002 x157003 x157004 x157005 x157006))))))
def pacelinelaw18_fit.j1 : Nat → List Int → Int → Int → Int → Int → Int → Bool → Bool → Bool → Int → Int → Int → Int → Int → Option (Bool)
  | 0, _, _, _, _, _, _, _, _, _, _, _, _, _, _ => none
  | k + 1, x1, x2, x8, x10, x11, x12, x71, x157000, x157001, x157002, x157003, x157004, x157005, x157006 => if x71 = true then (pacelinelaw18_fit.j2 k x1 x2 x8 x10 x11 x11 x157000 x157001 x157002 x157003 x157004 x157005 x157006) else (pacelinelaw18_fit.j2 k x1 x2 x8 x10 x11 x12 x157000 x157001 x157002 x157003 x157004 x157005 x157006)
def pacelinelaw18_fit.j2 : Nat → List Int → Int → Int → Int → Int → Int → Bool → Bool → Int → Int → Int → Int → Int → Option (Bool)
  | 0, _, _, _, _, _, _, _, _, _, _, _, _, _ => none
  | k + 1, x1, x2, x8, x10, x11, x12, x157000, x157001, x157002, x157003, x157004, x157005, x157006 => if x157004 = 2 then (pacelinelaw18_fit.j3 k x1 x2 x8 x10 x11 x12 x157001 x157000 x157001 x157002 x157003 x157004 x157005 x157006) else (if x157004 = 3 then (pacelinelaw18_fit.j3 k x1 x2 x8 x10 x11 x12 x157001 x157000 x157001 x157002 x157003 x157004 x157005 x157006) else (pacelinelaw18_fit.j3 k x1 x2 x8 x10 x11 x12 false x157000 x157001 x157002 x157003 x157004 x157005 x157006))
def pacelinelaw18_fit.j3 : Nat → List Int → Int → Int → Int → Int → Int → Bool → Bool → Bool → Int → Int → Int → Int → Int → Option (Bool)
  | 0, _, _, _, _, _, _, _, _, _, _, _, _, _, _ => none
  | k + 1, x1, x2, x8, x10, x11, x12, x84, x157000, x157001, x157002, x157003, x157004, x157005, x157006 => if x84 = true then ((pacelineref01_Add.f x157006 0).bind fun t162 => (if 0 ≤ x2 then (if x2 < (x1.length : Int) then ((pacelineref01_Add.f (mx x10 (mn (mn x11 t162) x8)) (mx 1 (mn x157003 1048576))).bind fun t164 => (some ((rd x1 x2) == t164))) else (none)) else (none))) else (if 0 ≤ x2 then (if x2 < (x1.length : Int) then ((pacelineref01_Add.f x12 (mx 1 (mn x157003 1048576))).bind fun t166 => (some ((rd x1 x2) == t166))) else (none)) else (none))
end
def pacelinelaw18_fit.f (k : Nat) (l0 : List (S30)) (l1 : List Int) (a2 : Int) : Option (Bool) := if 0 ≤ a2 then (if a2 < (l0.length : Int) then (if ((rd_T30 l0 a2).f0 = true) then (pacelinelaw18_fit.l0 k l0 l1 a2 1125899906842624 0 ((rd_T30 l0 a2).f0) ((rd_T30 l0 a2).f1) ((rd_T30 l0 a2).f2) ((rd_T30 l0 a2).f3) ((rd_T30 l0 a2).f4) ((rd_T30 l0 a2).f5) ((rd_T30 l0 a2).f6)) else (if a2 < (l1.length : Int) then (some ((rd l1 a2) == 1125899906842624)) else (none))) else (none)) else (none)
theorem pacelinelaw18_fit.mono_l : ∀ k, (∀ y0 y1 y2 y3 y4 y5 y6 y7 y8 y9 y10 y11, LeO (pacelinelaw18_fit.l0 k y0 y1 y2 y3 y4 y5 y6 y7 y8 y9 y10 y11) (pacelinelaw18_fit.l0 (k + 1) y0 y1 y2 y3 y4 y5 y6 y7 y8 y9 y10 y11)) ∧ (∀ y0 y1 y2 y3 y4 y5 y6 y7 y8 y9 y10 y11 y12 y13, LeO (pacelinelaw18_fit.j1 k y0 y1 y2 y3 y4 y5 y6 y7 y8 y9 y10 y11 y12 y13) (pacelinelaw18_fit.j1 (k + 1) y0 y1 y2 y3 y4 y5 y6 y7 y8 y9 y10 y11 y12 y13)) ∧ (∀ y0 y1 y2 y3 y4 y5 y6 y7 y8 y9 y10 y11 y12, LeO (pacelinelaw18_fit.j2 k y0 y1 y2 y3 y4 y5 y6 y7 y8 y9 y10 y11 y12) (pacelinelaw18_fit.j2 (k + 1) y0 y1 y2 y3 y4 y5 y6 y7 y8 y9 y10 y11 y12)) ∧ (∀ y0 y1 y2 y3 y4 y5 y6 y7 y8 y9 y10 y11 y12 y13, LeO (pacelinelaw18_fit.j3 k y0 y1 y2 y3 y4 y5 y6 y7 y8 y9 y10 y11 y12 y13) (pacelinelaw18_fit.j3 (k + 1) y0 y1 y2 y3 y4 y5 y6 y7 y8 y9 y10 y11 y12 y13))
  | 0 => ⟨fun _ _ _ _ _ _ _ _ _ _ _ _ r h => by simp [pacelinelaw18_fit.l0] at h, fun _ _ _ _ _ _ _ _ _ _ _ _ _ _ r h => by simp [pacelinelaw18_fit.j1] at h, fun _ _ _ _ _ _ _ _ _ _ _ _ _ r h => by simp [pacelinelaw18_fit.j2] at h, fun _ _ _ _ _ _ _ _ _ _ _ _ _ _ r h => by simp [pacelinelaw18_fit.j3] at h⟩
  | k + 1 => by
    obtain ⟨ih0, ih1, ih2, ih3⟩ := pacelinelaw18_fit.mono_l k
    refine ⟨?_, ?_, ?_, ?_⟩
    · intro y0 y1 y2 y3 y4 y5 y6 y7 y8 y9 y10 y11
      unfold pacelinelaw18_fit.l0
      repeat' first
      | (with_reducible exact ih0 _ _ _ _ _ _ _ _ _ _ _ _)
      | (with_reducible exact ih1 _ _ _ _ _ _ _ _ _ _ _ _ _ _)
      | (with_reducible exact ih2 _ _ _ _ _ _ _ _ _ _ _ _ _)
      | (with_reducible exact ih3 _ _ _ _ _ _ _ _ _ _ _ _ _ _)
      | (with_reducible exact LeO.refl _)
      | (with_reducible exact LeO.none _)
      | (with_reducible refine LeO.ite ?_ ?_)
      | (with_reducible refine LeO.bind ?_ (fun _ => ?_))
      | exact ih0 _ _ _ _ _ _ _ _ _ _ _ _
      | exact ih1 _ _ _ _ _ _ _ _ _ _ _ _ _ _
      | exact ih2 _ _ _ _ _ _ _ _ _ _ _ _ _
      | exact ih3 _ _ _ _ _ _ _ _ _ _ _ _ _ _
      | exact LeO.none _
      | refine LeO.ite ?_ ?_
      | refine LeO.bind ?_ (fun _ => ?_)
    · intro y0 y1 y2 y3 y4 y5 y6 y7 y8 y9 y10 y11 y12 y13
      unfold pacelinelaw18_fit.j1
      repeat' first
      | (with_reducible exact ih0 _ _ _ _ _ _ _ _ _ _ _ _)
      | (with_reducible exact ih1 _ _ _ _ _ _ _ _ _ _ _ _ _ _)
      | (with_reducible exact ih2 _ _ _ _ _ _ _ _ _ _ _ _ _)
      | (with_reducible exact ih3 _ _ _ _ _ _ _ _ _ _ _ _ _ _)
      | (with_reducible exact LeO.refl _)
      | (with_reducible exact LeO.none _)
      | (with_reducible refine LeO.ite ?_ ?_)
      | (with_reducible refine LeO.bind ?_ (fun _ => ?_))
      | exact ih0 _ _ _ _ _ _ _ _ _ _ _ _
      | exact ih1 _ _ _ _ _ _ _ _ _ _ _ _ _ _
      | exact ih2 _ _ _ _ _ _ _ _ _ _ _ _ _
      | exact ih3 _ _ _ _ _ _ _ _ _ _ _ _ _ _
      | exact LeO.none _
      | refine LeO.ite ?_ ?_
      | refine LeO.bind ?_ (fun _ => ?_)
    · intro y0 y1 y2 y3 y4 y5 y6 y7 y8 y9 y10 y11 y12
      unfold pacelinelaw18_fit.j2
      repeat' first
      | (with_reducible exact ih0 _ _ _ _ _ _ _ _ _ _ _ _)
      | (with_reducible exact ih1 _ _ _ _ _ _ _ _ _ _ _ _ _ _)
      | (with_reducible exact ih2 _ _ _ _ _ _ _ _ _ _ _ _ _)
      | (with_reducible exact ih3 _ _ _ _ _ _ _ _ _ _ _ _ _ _)
      | (with_reducible exact LeO.refl _)
      | (with_reducible exact LeO.none _)
      | (with_reducible refine LeO.ite ?_ ?_)
      | (with_reducible refine LeO.bind ?_ (fun _ => ?_))
      | exact ih0 _ _ _ _ _ _ _ _ _ _ _ _
      | exact ih1 _ _ _ _ _ _ _ _ _ _ _ _ _ _
      | exact ih2 _ _ _ _ _ _ _ _ _ _ _ _ _
      | exact ih3 _ _ _ _ _ _ _ _ _ _ _ _ _ _
      | exact LeO.none _
      | refine LeO.ite ?_ ?_
      | refine LeO.bind ?_ (fun _ => ?_)
    · intro y0 y1 y2 y3 y4 y5 y6 y7 y8 y9 y10 y11 y12 y13
      unfold pacelinelaw18_fit.j3
      repeat' first
      | (with_reducible exact ih0 _ _ _ _ _ _ _ _ _ _ _ _)
      | (with_reducible exact ih1 _ _ _ _ _ _ _ _ _ _ _ _ _ _)
      | (with_reducible exact ih2 _ _ _ _ _ _ _ _ _ _ _ _ _)
      | (with_reducible exact ih3 _ _ _ _ _ _ _ _ _ _ _ _ _ _)
      | (with_reducible exact LeO.refl _)
      | (with_reducible exact LeO.none _)
      | (with_reducible refine LeO.ite ?_ ?_)
      | (with_reducible refine LeO.bind ?_ (fun _ => ?_))
      | exact ih0 _ _ _ _ _ _ _ _ _ _ _ _
      | exact ih1 _ _ _ _ _ _ _ _ _ _ _ _ _ _
      | exact ih2 _ _ _ _ _ _ _ _ _ _ _ _ _
      | exact ih3 _ _ _ _ _ _ _ _ _ _ _ _ _ _
      | exact LeO.none _
      | refine LeO.ite ?_ ?_
      | refine LeO.bind ?_ (fun _ => ?_)
theorem pacelinelaw18_fit.mono : ∀ a0 a1 a2 k, LeO (pacelinelaw18_fit.f k a0 a1 a2) (pacelinelaw18_fit.f (k + 1) a0 a1 a2) := by
  intro a0 a1 a2 k
  obtain ⟨ih0, ih1, ih2, ih3⟩ := pacelinelaw18_fit.mono_l k
  unfold pacelinelaw18_fit.f
  repeat' first
      | (with_reducible exact ih0 _ _ _ _ _ _ _ _ _ _ _ _)
      | (with_reducible exact ih1 _ _ _ _ _ _ _ _ _ _ _ _ _ _)
      | (with_reducible exact ih2 _ _ _ _ _ _ _ _ _ _ _ _ _)
      | (with_reducible exact ih3 _ _ _ _ _ _ _ _ _ _ _ _ _ _)
      | (with_reducible exact LeO.refl _)
      | (with_reducible exact LeO.none _)
      | (with_reducible refine LeO.ite ?_ ?_)
      | (with_reducible refine LeO.bind ?_ (fun _ => ?_))
      | exact ih0 _ _ _ _ _ _ _ _ _ _ _ _
      | exact ih1 _ _ _ _ _ _ _ _ _ _ _ _ _ _
      | exact ih2 _ _ _ _ _ _ _ _ _ _ _ _ _
      | exact ih3 _ _ _ _ _ _ _ _ _ _ _ _ _ _
      | exact LeO.none _
      | refine LeO.ite ?_ ?_
      | refine LeO.bind ?_ (fun _ => ?_)
set_option maxHeartbeats 24000000 in
set_option maxRecDepth 100000 in
theorem pacelinelaw18_fit.calls (k : Nat) (A0 : Option Addr) (c0 : Nat) (l0 : List (S30)) (A1 : Option Addr) (c1 : Nat) (l1 : List Int) (a2 : Int) (r : Bool) (w : World) (hr0 : Kd.C k30 w A0 l0.length l0) (hc0 : l0.length ≤ c0) (hr1 : Kd.C (Kd.int .i64) w A1 l1.length l1) (hc1 : l1.length ≤ c1) (h : pacelinelaw18_fit.f k l0 l1 a2 = some r) :
    Calls Try.prog 13 #[.slice A0 l0.length c0, .slice A1 l1.length c1, .int .i64 a2] w fun e w' => e = .returned (.bool r) ∧ Below w.heap.size w w' := by
  have hu30 := Try.underlying30
  have HR0 := Aside0.mk hr0
  have HC0 := Aside0.mk hc0
  clear hr0 hc0
  have HR1 := Aside0.mk hr1
  have HC1 := Aside0.mk hc1
  clear hr1 hc1
  have HB := Aside0.mk (Below.refl w.heap.size w)
  have H : (if 0 ≤ a2 then (if a2 < (l0.length : Int) then (if ((rd_T30 l0 a2).f0 = true) then (pacelinelaw18_fit.l0 k l0 l1 a2 1125899906842624 0 ((rd_T30 l0 a2).f0) ((rd_T30 l0 a2).f1) ((rd_T30 l0 a2).f2) ((rd_T30 l0 a2).f3) ((rd_T30 l0 a2).f4) ((rd_T30 l0 a2).f5) ((rd_T30 l0 a2).f6)) else (if a2 < (l1.length : Int) then (some ((rd l1 a2) == 1125899906842624)) else (none))) else (none)) else (none)) = some r := h
  clear h
  by_cases c4 : 0 ≤ a2
  · rw [if_pos c4] at H
    have c4b0 : decide (0 ≤ a2) = true := decide_eq_true c4
    clear c4
    by_cases c5 : a2 < (l0.length : Int)
    · rw [if_pos c5] at H
      have c5b0 : decide (a2 < (l0.length : Int)) = true := decide_eq_true c5
      clear c5
      obtain ⟨bq6, hbq6⟩ : ∃ b_ : Bool, b_ = ((rd_T30 l0 a2).f0) := ⟨_, rfl⟩
      replace H : (if (bq6 = true) then (pacelinelaw18_fit.l0 k l0 l1 a2 1125899906842624 0 bq6 ((rd_T30 l0 a2).f1) ((rd_T30 l0 a2).f2) ((rd_T30 l0 a2).f3) ((rd_T30 l0 a2).f4) ((rd_T30 l0 a2).f5) ((rd_T30 l0 a2).f6)) else (if a2 < (l1.length : Int) then (some ((rd l1 a2) == 1125899906842624)) else (none))) = some r := by rw [← hbq6] at H; exact H
      have Nbq6 := Aside0.mk hbq6
      clear hbq6
      by_cases c7 : (bq6 = true)
      · subst c7
        have H1 : (pacelinelaw18_fit.l0 k l0 l1 a2 1125899906842624 0 true ((rd_T30 l0 a2).f1) ((rd_T30 l0 a2).f2) ((rd_T30 l0 a2).f3) ((rd_T30 l0 a2).f4) ((rd_T30 l0 a2).f5) ((rd_T30 l0 a2).f6)) = some r := by rw [if_pos rfl] at H; exact H
        clear H
        have H := H1
        clear H1
        have H' := Aside0.mk H
        clear H
        have p155 : 0 ≤ (a2 : Int) := of_decide_eq_true (by first | (with_reducible assumption) | assumption)
        have q155 : a2 < (l0.length : Int) := of_decide_eq_true (by first | (with_reducible assumption) | assumption)
        obtain ⟨ad155, e155, hx155_0, hx155_1, hx155_2, hx155_3, hx155_4, hx155_5, hx155_6⟩ := at_T30 HR0.out a2 p155 q155
        (try rw [← Nbq6.out] at hx155_0)
        (try rw [← Nbq6.out] at hx155_1)
        cases e155
        replace p155 := eq_true p155
        replace q155 := eq_true q155
        go_enter Try.func13, Try.ntmps13
        go_wp2_with (first | ((with_reducible refine gate_dst (N := 7) rfl ?_); refine box_event ?hg (N := 7) ?hd (cs := #[.bool false, .bool false, .int .i64 0, .int .i64 0, .int .i64 0, .int .i64 0, .int .i64 0]) (t := 30) ?hr ?_; (case hd => rfl); (case hg => rfl); (case hr => first | (go_simp; done) | (go_simp; rfl)); intro gb156 hg w8 hbox hb; have n0_ := Aside0.mk (below_step (by repeat (first | (with_reducible first | exact HB.out | apply below_alloc | apply pw_below_drewN | apply below_drew1) | exact HB.out)) hb); have n1_ := Aside0.mk (hbox); have n2_ := Aside0.mk ((by rw [hg]; exact (below_size (by repeat (first | (with_reducible first | exact HB.out | apply below_alloc | apply pw_below_drewN | apply below_drew1) | exact HB.out))) : w.heap.size ≤ gb156)); have n3_ := Aside0.mk ((by rw [hg]; exact (below_size (by repeat (first | (with_reducible first | exact HB.out | apply below_alloc | apply pw_below_drewN | apply below_drew1) | exact HB.out))) : w.heap.size ≤ gb156)); clear HB; have HB := n0_; have BK156 := n1_; have GW156 := n2_; have GE156 := n3_; clear n0_ n1_ n2_ n3_; clear hb hbox hg; have hcz9_0 : w8.cell? ⟨gb156, 0, none⟩ = some (.bool false) := (blk_cell BK156.out 0).trans rfl; have hcz9_1 : w8.cell? ⟨gb156, 1, none⟩ = some (.bool false) := (blk_cell BK156.out 1).trans rfl; have hcz9_2 : w8.cell? ⟨gb156, 2, none⟩ = some (.int .i64 0) := (blk_cell BK156.out 2).trans rfl; have hcz9_3 : w8.cell? ⟨gb156, 3, none⟩ = some (.int .i64 0) := (blk_cell BK156.out 3).trans rfl; have hcz9_4 : w8.cell? ⟨gb156, 4, none⟩ = some (.int .i64 0) := (blk_cell BK156.out 4).trans rfl; have hcz9_5 : w8.cell? ⟨gb156, 5, none⟩ = some (.int .i64 0) := (blk_cell BK156.out 5).trans rfl; have hcz9_6 : w8.cell? ⟨gb156, 6, none⟩ = some (.int .i64 0) := (blk_cell BK156.out 6).trans rfl; have hfz9_0 := blk_frozen BK156.out 0; have hfz9_1 := blk_frozen BK156.out 1; have hfz9_2 := blk_frozen BK156.out 2; have hfz9_3 := blk_frozen BK156.out 3; have hfz9_4 := blk_frozen BK156.out 4; have hfz9_5 := blk_frozen BK156.out 5; have hfz9_6 := blk_frozen BK156.out 6))
        repeat (go_quiet (first | ((with_reducible refine gate_dst (N := 7) rfl ?_); refine box_event ?hg (N := 7) ?hd (cs := #[.bool false, .bool false, .int .i64 0, .int .i64 0, .int .i64 0, .int .i64 0, .int .i64 0]) (t := 30) ?hr ?_; (case hd => rfl); (case hg => rfl); (case hr => first | (go_simp; done) | (go_simp; rfl)); intro gb156 hg w8 hbox hb; have n0_ := Aside0.mk (below_step (by repeat (first | (with_reducible first | exact HB.out | apply below_alloc | apply pw_below_drewN | apply below_drew1) | exact HB.out)) hb); have n1_ := Aside0.mk (hbox); have n2_ := Aside0.mk ((by rw [hg]; exact (below_size (by repeat (first | (with_reducible first | exact HB.out | apply below_alloc | apply pw_below_drewN | apply below_drew1) | exact HB.out))) : w.heap.size ≤ gb156)); have n3_ := Aside0.mk ((by rw [hg]; exact (below_size (by repeat (first | (with_reducible first | exact HB.out | apply below_alloc | apply pw_below_drewN | apply below_drew1) | exact HB.out))) : w.heap.size ≤ gb156)); clear HB; have HB := n0_; have BK156 := n1_; have GW156 := n2_; have GE156 := n3_; clear n0_ n1_ n2_ n3_; clear hb hbox hg; have hcz9_0 : w8.cell? ⟨gb156, 0, none⟩ = some (.bool false) := (blk_cell BK156.out 0).trans rfl; have hcz9_1 : w8.cell? ⟨gb156, 1, none⟩ = some (.bool false) := (blk_cell BK156.out 1).trans rfl; have hcz9_2 : w8.cell? ⟨gb156, 2, none⟩ = some (.int .i64 0) := (blk_cell BK156.out 2).trans rfl; have hcz9_3 : w8.cell? ⟨gb156, 3, none⟩ = some (.int .i64 0) := (blk_cell BK156.out 3).trans rfl; have hcz9_4 : w8.cell? ⟨gb156, 4, none⟩ = some (.int .i64 0) := (blk_cell BK156.out 4).trans rfl; have hcz9_5 : w8.cell? ⟨gb156, 5, none⟩ = some (.int .i64 0) := (blk_cell BK156.out 5).trans rfl; have hcz9_6 : w8.cell? ⟨gb156, 6, none⟩ = some (.int .i64 0) := (blk_cell BK156.out 6).trans rfl; have hfz9_0 := blk_frozen BK156.out 0; have hfz9_1 := blk_frozen BK156.out 1; have hfz9_2 := blk_frozen BK156.out 2; have hfz9_3 := blk_frozen BK156.out 3; have hfz9_4 := blk_frozen BK156.out 4; have hfz9_5 := blk_frozen BK156.out 5; have hfz9_6 := blk_frozen BK156.out 6)); try go_wp2_with (first | ((with_reducible refine gate_dst (N := 7) rfl ?_); refine box_event ?hg (N := 7) ?hd (cs := #[.bool false, .bool false, .int .i64 0, .int .i64 0, .int .i64 0, .int .i64 0, .int .i64 0]) (t := 30) ?hr ?_; (case hd => rfl); (case hg => rfl); (case hr => first | (go_simp; done) | (go_simp; rfl)); intro gb156 hg w8 hbox hb; have n0_ := Aside0.mk (below_step (by repeat (first | (with_reducible first | exact HB.out | apply below_alloc | apply pw_below_drewN | apply below_drew1) | exact HB.out)) hb); have n1_ := Aside0.mk (hbox); have n2_ := Aside0.mk ((by rw [hg]; exact (below_size (by repeat (first | (with_reducible first | exact HB.out | apply below_alloc | apply pw_below_drewN | apply below_drew1) | exact HB.out))) : w.heap.size ≤ gb156)); have n3_ := Aside0.mk ((by rw [hg]; exact (below_size (by repeat (first | (with_reducible first | exact HB.out | apply below_alloc | apply pw_below_drewN | apply below_drew1) | exact HB.out))) : w.heap.size ≤ gb156)); clear HB; have HB := n0_; have BK156 := n1_; have GW156 := n2_; have GE156 := n3_; clear n0_ n1_ n2_ n3_; clear hb hbox hg; have hcz9_0 : w8.cell? ⟨gb156, 0, none⟩ = some (.bool false) := (blk_cell BK156.out 0).trans rfl; have hcz9_1 : w8.cell? ⟨gb156, 1, none⟩ = some (.bool false) := (blk_cell BK156.out 1).trans rfl; have hcz9_2 : w8.cell? ⟨gb156, 2, none⟩ = some (.int .i64 0) := (blk_cell BK156.out 2).trans rfl; have hcz9_3 : w8.cell? ⟨gb156, 3, none⟩ = some (.int .i64 0) := (blk_cell BK156.out 3).trans rfl; have hcz9_4 : w8.cell? ⟨gb156, 4, none⟩ = some (.int .i64 0) := (blk_cell BK156.out 4).trans rfl; have hcz9_5 : w8.cell? ⟨gb156, 5, none⟩ = some (.int .i64 0) := (blk_cell BK156.out 5).trans rfl; have hcz9_6 : w8.cell? ⟨gb156, 6, none⟩ = some (.int .i64 0) := (blk_cell BK156.out 6).trans rfl; have hfz9_0 := blk_frozen BK156.out 0; have hfz9_1 := blk_frozen BK156.out 1; have hfz9_2 := blk_frozen BK156.out 2; have hfz9_3 := blk_frozen BK156.out 3; have hfz9_4 := blk_frozen BK156.out 4; have hfz9_5 := blk_frozen BK156.out 5; have hfz9_6 := blk_frozen BK156.out 6)))
        go_loopg [8, 9] k (fun kq v8 v9 w' => ∃ (x8_1 : Int) (x9_1 : Int), v8 = .int .i64 x8_1 ∧ v9 = .int .i64 x9_1 ∧ Aside0 (pacelinelaw18_fit.l0 kq l0 l1 a2 x8_1 x9_1 true ((rd_T30 l0 a2).f1) ((rd_T30 l0 a2).f2) ((rd_T30 l0 a2).f3) ((rd_T30 l0 a2).f4) ((rd_T30 l0 a2).f5) ((rd_T30 l0 a2).f6) = some r) ∧ Aside0 (kq ≤ k) ∧ Aside0 (w'.heap[gb156]? = some (.cells #[.bool true, .bool ((rd_T30 l0 a2).f1), .int .i64 ((rd_T30 l0 a2).f2), .int .i64 ((rd_T30 l0 a2).f3), .int .i64 ((rd_T30 l0 a2).f4), .int .i64 ((rd_T30 l0 a2).f5), .int .i64 ((rd_T30 l0 a2).f6)] 30 (0, 0))) ∧ Aside0 (Below w.heap.size w w'))
        case atStart => exact ⟨(1125899906842624), (0), (by first | rfl | (simp; done) | (simp [*]; done)), (by first | rfl | (simp; done) | (simp [*]; done)), H', ⟨Nat.le_refl _⟩, ⟨by (with_reducible repeat (first | refine blk_drewN ?_ _ | refine blk_drew ?_ | refine blk_alloc ?_ _)); refine blk_put (cs := #[.bool true, .bool ((rd_T30 l0 a2).f1), .int .i64 ((rd_T30 l0 a2).f2), .int .i64 ((rd_T30 l0 a2).f3), .int .i64 ((rd_T30 l0 a2).f4), .int .i64 ((rd_T30 l0 a2).f5), .int .i64 0]) ?_ 6 _ rfl; (with_reducible repeat (first | refine blk_drewN ?_ _ | refine blk_drew ?_ | refine blk_alloc ?_ _)); refine blk_put (cs := #[.bool true, .bool ((rd_T30 l0 a2).f1), .int .i64 ((rd_T30 l0 a2).f2), .int .i64 ((rd_T30 l0 a2).f3), .int .i64 ((rd_T30 l0 a2).f4), .int .i64 0, .int .i64 0]) ?_ 5 _ rfl; (with_reducible repeat (first | refine blk_drewN ?_ _ | refine blk_drew ?_ | refine blk_alloc ?_ _)); refine blk_put (cs := #[.bool true, .bool ((rd_T30 l0 a2).f1), .int .i64 ((rd_T30 l0 a2).f2), .int .i64 ((rd_T30 l0 a2).f3), .int .i64 0, .int .i64 0, .int .i64 0]) ?_ 4 _ rfl; (with_reducible repeat (first | refine blk_drewN ?_ _ | refine blk_drew ?_ | refine blk_alloc ?_ _)); refine blk_put (cs := #[.bool true, .bool ((rd_T30 l0 a2).f1), .int .i64 ((rd_T30 l0 a2).f2), .int .i64 0, .int .i64 0, .int .i64 0, .int .i64 0]) ?_ 3 _ rfl; (with_reducible repeat (first | refine blk_drewN ?_ _ | refine blk_drew ?_ | refine blk_alloc ?_ _)); refine blk_put (cs := #[.bool true, .bool ((rd_T30 l0 a2).f1), .int .i64 0, .int .i64 0, .int .i64 0, .int .i64 0, .int .i64 0]) ?_ 2 _ rfl; (with_reducible repeat (first | refine blk_drewN ?_ _ | refine blk_drew ?_ | refine blk_alloc ?_ _)); refine blk_put (cs := #[.bool true, .bool false, .int .i64 0, .int .i64 0, .int .i64 0, .int .i64 0, .int .i64 0]) ?_ 1 _ rfl; (with_reducible repeat (first | refine blk_drewN ?_ _ | refine blk_drew ?_ | refine blk_alloc ?_ _)); refine blk_put (cs := #[.bool false, .bool false, .int .i64 0, .int .i64 0, .int .i64 0, .int .i64 0, .int .i64 0]) ?_ 0 _ rfl; (with_reducible repeat (first | refine blk_drewN ?_ _ | refine blk_drew ?_ | refine blk_alloc ?_ _)); exact BK156.out⟩, ⟨by repeat (first | (with_reducible first | exact HB.out | apply below_alloc | apply pw_below_drewN | apply below_drew1 | refine below_set ?_ GE156.out) | exact HB.out)⟩⟩
        case round =>
          clear H'
          try clear c1
          try clear p1
          try clear q1
          try clear hx1
          try clear p2
          try clear c4
          try clear c4b0
          try clear c5
          try clear c5b0
          try clear q6
          try clear c7
          try clear hcz9_0
          try clear hcz9_1
          try clear hcz9_2
          try clear hcz9_3
          try clear hcz9_4
          try clear hcz9_5
          try clear hcz9_6
          try clear hfz9_0
          try clear hfz9_1
          try clear hfz9_2
          try clear hfz9_3
          try clear hfz9_4
          try clear hfz9_5
          try clear hfz9_6
          try clear hx155_0
          try clear hx155_1
          try clear hx155_2
          try clear hx155_3
          try clear hx155_4
          try clear hx155_5
          try clear hx155_6
          try clear p155
          try clear q155
          obtain ⟨x8_1, x9_1, rfl, rfl, HA, HK1, BK156, HB⟩ := hrel
          cases gk with
          | zero => exact absurd HA.out (by simp [pacelinelaw18_fit.l0])
          | succ k1 =>
            have H := HA.out
            clear HA
            simp only [pacelinelaw18_fit.l0] at H
            by_cases c10 : x9_1 < (l0.length : Int)
            · rw [if_pos c10] at H
              have c10b0 : decide (x9_1 < (l0.length : Int)) = true := decide_eq_true c10
              clear c10
              by_cases c11 : x9_1 = a2
              · rw [if_pos c11] at H
                have c11b0 : (x9_1 == a2) = true := beq_iff_eq.mpr c11
                have c11b1 : (x9_1 != a2) = false := bne_eq_false_iff_eq.mpr c11
                clear c11
                have H' := Aside0.mk H
                clear H
                go_wp2
                repeat (go_quiet (fail); try go_wp2)
                go_roundg k1
                case measure => have := HK1.out; omega
                case rel => exact ⟨(x8_1), (wrap64 (x9_1 + 1)), (by first | rfl | (simp; done) | (simp [*]; done)), (by first | rfl | (simp; done) | (simp [*]; done)), H', ⟨by have := HK1.out; omega⟩, ⟨by (with_reducible repeat (first | refine blk_drewN ?_ _ | refine blk_drew ?_ | refine blk_alloc ?_ _)); exact BK156.out⟩, ⟨by repeat (first | (with_reducible first | exact HB.out | apply below_alloc | apply pw_below_drewN | apply below_drew1 | refine below_set ?_ GE156.out) | exact HB.out)⟩⟩
              · rw [if_neg c11] at H
                have c11b0 : (x9_1 == a2) = false := beq_eq_false_iff_ne.mpr c11
                have c11b1 : (x9_1 != a2) = true := bne_iff_ne.mpr c11
                by_cases c12 : 0 ≤ x9_1
                · rw [if_pos c12] at H
                  have c12b0 : decide (0 ≤ x9_1) = true := decide_eq_true c12
                  clear c12
                  obtain ⟨bq13, hbq13⟩ : ∃ b_ : Bool, b_ = ((rd_T30 l0 x9_1).f0) := ⟨_, rfl⟩
                  replace H : (if bq13 = true then (if x9_1 < (l1.length : Int) then (pacelinelaw18_fit.l0 k1 l0 l1 a2 (mn x8_1 (rd l1 x9_1)) (wrap64 (x9_1 + 1)) true ((rd_T30 l0 a2).f1) ((rd_T30 l0 a2).f2) ((rd_T30 l0 a2).f3) ((rd_T30 l0 a2).f4) ((rd_T30 l0 a2).f5) ((rd_T30 l0 a2).f6)) else (none)) else (pacelinelaw18_fit.l0 k1 l0 l1 a2 x8_1 (wrap64 (x9_1 + 1)) true ((rd_T30 l0 a2).f1) ((rd_T30 l0 a2).f2) ((rd_T30 l0 a2).f3) ((rd_T30 l0 a2).f4) ((rd_T30 l0 a2).f5) ((rd_T30 l0 a2).f6))) = some r := by rw [← hbq13] at H; exact H
                  have Nbq13 := Aside0.mk hbq13
                  clear hbq13
                  by_cases c14 : bq13 = true
                  · subst c14
                    have H1 : (if x9_1 < (l1.length : Int) then (pacelinelaw18_fit.l0 k1 l0 l1 a2 (mn x8_1 (rd l1 x9_1)) (wrap64 (x9_1 + 1)) true ((rd_T30 l0 a2).f1) ((rd_T30 l0 a2).f2) ((rd_T30 l0 a2).f3) ((rd_T30 l0 a2).f4) ((rd_T30 l0 a2).f5) ((rd_T30 l0 a2).f6)) else (none)) = some r := by rw [if_pos rfl] at H; exact H
                    clear H
                    have H := H1
                    clear H1
                    by_cases c15 : x9_1 < (l1.length : Int)
                    · rw [if_pos c15] at H
                      have c15b0 : decide (x9_1 < (l1.length : Int)) = true := decide_eq_true c15
                      clear c15
                      obtain ⟨ji16, hji16⟩ : ∃ j_ : Int, (mn x8_1 (rd l1 x9_1)) = j_ := ⟨_, rfl⟩
                      replace H : (pacelinelaw18_fit.l0 k1 l0 l1 a2 ji16 (wrap64 (x9_1 + 1)) true ((rd_T30 l0 a2).f1) ((rd_T30 l0 a2).f2) ((rd_T30 l0 a2).f3) ((rd_T30 l0 a2).f4) ((rd_T30 l0 a2).f5) ((rd_T30 l0 a2).f6)) = some r := by first | (rw [hji16] at H; exact H) | (simp only [hji16] at H ⊢; exact H)
                      have hji16_ : (if (rd l1 x9_1) < x8_1 then (rd l1 x9_1) else x8_1) = ji16 := hji16
                      have H' := Aside0.mk H
                      clear H
                      have p158 : 0 ≤ (x9_1 : Int) := of_decide_eq_true (by first | (with_reducible assumption) | assumption)
                      have q158 : x9_1 < (l0.length : Int) := of_decide_eq_true (by first | (with_reducible assumption) | assumption)
                      obtain ⟨ad158, e158, hx158_0, hx158_1, hx158_2, hx158_3, hx158_4, hx158_5, hx158_6⟩ := at_T30 HR0.out x9_1 p158 q158
                      (try rw [← Nbq6.out] at hx158_0)
                      (try rw [← Nbq13.out] at hx158_0)
                      (try rw [← Nbq6.out] at hx158_1)
                      (try rw [← Nbq13.out] at hx158_1)
                      obtain rfl : ad155 = ad158 := (by injection e158)
                      replace hx158_0 := (HB.out.cell (World.block_lt_of_cell? w _ hx158_0)).trans hx158_0
                      replace hx158_1 := (HB.out.cell (World.block_lt_of_cell? w _ hx158_1)).trans hx158_1
                      replace hx158_2 := (HB.out.cell (World.block_lt_of_cell? w _ hx158_2)).trans hx158_2
                      replace hx158_3 := (HB.out.cell (World.block_lt_of_cell? w _ hx158_3)).trans hx158_3
                      replace hx158_4 := (HB.out.cell (World.block_lt_of_cell? w _ hx158_4)).trans hx158_4
                      replace hx158_5 := (HB.out.cell (World.block_lt_of_cell? w _ hx158_5)).trans hx158_5
                      replace hx158_6 := (HB.out.cell (World.block_lt_of_cell? w _ hx158_6)).trans hx158_6
                      replace p158 := eq_true p158
                      replace q158 := eq_true q158
                      have p159 : 0 ≤ (x9_1 : Int) := of_decide_eq_true (by first | (with_reducible assumption) | assumption)
                      have q159 : x9_1 < (l1.length : Int) := of_decide_eq_true (by first | (with_reducible assumption) | assumption)
                      obtain ⟨ad159, e159, hx159_0⟩ := Kd.at_int HR1.out x9_1 p159 q159
                      cases e159
                      replace hx159_0 := (HB.out.cell (World.block_lt_of_cell? w _ hx159_0)).trans hx159_0
                      replace p159 := eq_true p159
                      replace q159 := eq_true q159
                      go_wp2
                      repeat (go_quiet (fail); try go_wp2)
                      go_roundg k1
                      case measure => have := HK1.out; omega
                      case rel => exact ⟨(ji16), (wrap64 (x9_1 + 1)), (by first | rfl | (simp; done) | (simp only [← hji16] <;> (first | rfl | simp)) | (simp [*]; done)), (by first | rfl | (simp; done) | (simp [*]; done)), H', ⟨by have := HK1.out; omega⟩, ⟨by (with_reducible repeat (first | refine blk_drewN ?_ _ | refine blk_drew ?_ | refine blk_alloc ?_ _)); exact BK156.out⟩, ⟨by repeat (first | (with_reducible first | exact HB.out | apply below_alloc | apply pw_below_drewN | apply below_drew1 | refine below_set ?_ GE156.out) | exact HB.out)⟩⟩
                    · rw [if_neg c15] at H
                      exact absurd H (by simp)
                  · replace c14 := Bool.eq_false_iff.mpr c14
                    subst c14
                    have H1 : (pacelinelaw18_fit.l0 k1 l0 l1 a2 x8_1 (wrap64 (x9_1 + 1)) true ((rd_T30 l0 a2).f1) ((rd_T30 l0 a2).f2) ((rd_T30 l0 a2).f3) ((rd_T30 l0 a2).f4) ((rd_T30 l0 a2).f5) ((rd_T30 l0 a2).f6)) = some r := by rw [if_neg (show ¬ (false = true) by decide)] at H; exact H
                    clear H
                    have H := H1
                    clear H1
                    have H' := Aside0.mk H
                    clear H
                    have p158 : 0 ≤ (x9_1 : Int) := of_decide_eq_true (by first | (with_reducible assumption) | assumption)
                    have q158 : x9_1 < (l0.length : Int) := of_decide_eq_true (by first | (with_reducible assumption) | assumption)
                    obtain ⟨ad158, e158, hx158_0, hx158_1, hx158_2, hx158_3, hx158_4, hx158_5, hx158_6⟩ := at_T30 HR0.out x9_1 p158 q158
                    (try rw [← Nbq6.out] at hx158_0)
                    (try rw [← Nbq13.out] at hx158_0)
                    (try rw [← Nbq6.out] at hx158_1)
                    (try rw [← Nbq13.out] at hx158_1)
                    obtain rfl : ad155 = ad158 := (by injection e158)
                    replace hx158_0 := (HB.out.cell (World.block_lt_of_cell? w _ hx158_0)).trans hx158_0
                    replace hx158_1 := (HB.out.cell (World.block_lt_of_cell? w _ hx158_1)).trans hx158_1
                    replace hx158_2 := (HB.out.cell (World.block_lt_of_cell? w _ hx158_2)).trans hx158_2
                    replace hx158_3 := (HB.out.cell (World.block_lt_of_cell? w _ hx158_3)).trans hx158_3
                    replace hx158_4 := (HB.out.cell (World.block_lt_of_cell? w _ hx158_4)).trans hx158_4
                    replace hx158_5 := (HB.out.cell (World.block_lt_of_cell? w _ hx158_5)).trans hx158_5
                    replace hx158_6 := (HB.out.cell (World.block_lt_of_cell? w _ hx158_6)).trans hx158_6
                    replace p158 := eq_true p158
                    replace q158 := eq_true q158
                    go_wp2
                    repeat (go_quiet (fail); try go_wp2)
                    go_roundg k1
                    case measure => have := HK1.out; omega
                    case rel => exact ⟨(x8_1), (wrap64 (x9_1 + 1)), (by first | rfl | (simp; done) | (simp [*]; done)), (by first | rfl | (simp; done) | (simp [*]; done)), H', ⟨by have := HK1.out; omega⟩, ⟨by (with_reducible repeat (first | refine blk_drewN ?_ _ | refine blk_drew ?_ | refine blk_alloc ?_ _)); exact BK156.out⟩, ⟨by repeat (first | (with_reducible first | exact HB.out | apply below_alloc | apply pw_below_drewN | apply below_drew1 | refine below_set ?_ GE156.out) | exact HB.out)⟩⟩
                · rw [if_neg c12] at H
                  exact absurd H (by simp)
            · rw [if_neg c10] at H
              have c10b0 : decide (x9_1 < (l0.length : Int)) = false := decide_eq_false c10
              clear c10
              replace H := Option.bind_eq_some_iff.mp H
              obtain ⟨t160, A170, H⟩ := H
              replace H : ((pacelineref01_Add.f ((rd_T30 l0 a2).f5) 0).bind fun t161 => (if ((rd_T30 l0 a2).f4) = 1 then (pacelinelaw18_fit.j1 k1 l1 a2 x8_1 t160 t161 t160 true true ((rd_T30 l0 a2).f1) ((rd_T30 l0 a2).f2) ((rd_T30 l0 a2).f3) ((rd_T30 l0 a2).f4) ((rd_T30 l0 a2).f5) ((rd_T30 l0 a2).f6)) else (if ((rd_T30 l0 a2).f4) = 2 then (pacelinelaw18_fit.j1 k1 l1 a2 x8_1 t160 t161 t160 (!((rd_T30 l0 a2).f1)) true ((rd_T30 l0 a2).f1) ((rd_T30 l0 a2).f2) ((rd_T30 l0 a2).f3) ((rd_T30 l0 a2).f4) ((rd_T30 l0 a2).f5) ((rd_T30 l0 a2).f6)) else (if ((rd_T30 l0 a2).f4) = 3 then (pacelinelaw18_fit.j1 k1 l1 a2 x8_1 t160 t161 t160 (!((rd_T30 l0 a2).f1)) true ((rd_T30 l0 a2).f1) ((rd_T30 l0 a2).f2) ((rd_T30 l0 a2).f3) ((rd_T30 l0 a2).f4) ((rd_T30 l0 a2).f5) ((rd_T30 l0 a2).f6)) else (pacelinelaw18_fit.j1 k1 l1 a2 x8_1 t160 t161 t160 false true ((rd_T30 l0 a2).f1) ((rd_T30 l0 a2).f2) ((rd_T30 l0 a2).f3) ((rd_T30 l0 a2).f4) ((rd_T30 l0 a2).f5) ((rd_T30 l0 a2).f6)))))) = some r := H
              have A17 := Aside0.mk A170
              clear A170
              replace H := Option.bind_eq_some_iff.mp H
              obtain ⟨t161, A180, H⟩ := H
              replace H : (if ((rd_T30 l0 a2).f4) = 1 then (pacelinelaw18_fit.j1 k1 l1 a2 x8_1 t160 t161 t160 true true ((rd_T30 l0 a2).f1) ((rd_T30 l0 a2).f2) ((rd_T30 l0 a2).f3) ((rd_T30 l0 a2).f4) ((rd_T30 l0 a2).f5) ((rd_T30 l0 a2).f6)) else (if ((rd_T30 l0 a2).f4) = 2 then (pacelinelaw18_fit.j1 k1 l1 a2 x8_1 t160 t161 t160 (!((rd_T30 l0 a2).f1)) true ((rd_T30 l0 a2).f1) ((rd_T30 l0 a2).f2) ((rd_T30 l0 a2).f3) ((rd_T30 l0 a2).f4) ((rd_T30 l0 a2).f5) ((rd_T30 l0 a2).f6)) else (if ((rd_T30 l0 a2).f4) = 3 then (pacelinelaw18_fit.j1 k1 l1 a2 x8_1 t160 t161 t160 (!((rd_T30 l0 a2).f1)) true ((rd_T30 l0 a2).f1) ((rd_T30 l0 a2).f2) ((rd_T30 l0 a2).f3) ((rd_T30 l0 a2).f4) ((rd_T30 l0 a2).f5) ((rd_T30 l0 a2).f6)) else (pacelinelaw18_fit.j1 k1 l1 a2 x8_1 t160 t161 t160 false true ((rd_T30 l0 a2).f1) ((rd_T30 l0 a2).f2) ((rd_T30 l0 a2).f3) ((rd_T30 l0 a2).f4) ((rd_T30 l0 a2).f5) ((rd_T30 l0 a2).f6))))) = some r := H
              have A18 := Aside0.mk A180
              clear A180
              have HC19 := Aside0.mk H
              clear H
              have hcz20_0 : wr.cell? ⟨gb156, 0, none⟩ = some (.bool true) := (blk_cell BK156.out 0).trans rfl
              have hcz20_1 : wr.cell? ⟨gb156, 1, none⟩ = some (.bool ((rd_T30 l0 a2).f1)) := (blk_cell BK156.out 1).trans rfl
              have hcz20_2 : wr.cell? ⟨gb156, 2, none⟩ = some (.int .i64 ((rd_T30 l0 a2).f2)) := (blk_cell BK156.out 2).trans rfl
              have hcz20_3 : wr.cell? ⟨gb156, 3, none⟩ = some (.int .i64 ((rd_T30 l0 a2).f3)) := (blk_cell BK156.out 3).trans rfl
              have hcz20_4 : wr.cell? ⟨gb156, 4, none⟩ = some (.int .i64 ((rd_T30 l0 a2).f4)) := (blk_cell BK156.out 4).trans rfl
              have hcz20_5 : wr.cell? ⟨gb156, 5, none⟩ = some (.int .i64 ((rd_T30 l0 a2).f5)) := (blk_cell BK156.out 5).trans rfl
              have hcz20_6 : wr.cell? ⟨gb156, 6, none⟩ = some (.int .i64 ((rd_T30 l0 a2).f6)) := (blk_cell BK156.out 6).trans rfl
              have hfz20_0 := blk_frozen BK156.out 0
              have hfz20_1 := blk_frozen BK156.out 1
              have hfz20_2 := blk_frozen BK156.out 2
              have hfz20_3 := blk_frozen BK156.out 3
              have hfz20_4 := blk_frozen BK156.out 4
              have hfz20_5 := blk_frozen BK156.out 5
              have hfz20_6 := blk_frozen BK156.out 6
              go_upto_region 13 with (first | (go_at_call 12; (with_reducible refine (pacelineref01_Add.calls ((rd_T30 l0 a2).f2) 0 t160 _ A17.out).mono ?_); rintro e w' ⟨rfl, ⟨nd, rfl⟩⟩; (try first | exact ⟨rfl, _, World.drewN_drewN _ _ _⟩ | exact ⟨rfl, _, Eq.trans (World.drewN_drewN _ _ _) (congrArg (World.drewN _) (Nat.add_assoc _ _ _))⟩)) | (go_at_call 12; (with_reducible refine (pacelineref01_Add.calls ((rd_T30 l0 a2).f5) 0 t161 _ A18.out).mono ?_); rintro e w' ⟨rfl, ⟨nd, rfl⟩⟩; (try first | exact ⟨rfl, _, World.drewN_drewN _ _ _⟩ | exact ⟨rfl, _, Eq.trans (World.drewN_drewN _ _ _) (congrArg (World.drewN _) (Nat.add_assoc _ _ _))⟩)))
              repeat (go_quiet (first | (go_at_call 12; (with_reducible refine (pacelineref01_Add.calls ((rd_T30 l0 a2).f2) 0 t160 _ A17.out).mono ?_); rintro e w' ⟨rfl, ⟨nd, rfl⟩⟩; (try first | exact ⟨rfl, _, World.drewN_drewN _ _ _⟩ | exact ⟨rfl, _, Eq.trans (World.drewN_drewN _ _ _) (congrArg (World.drewN _) (Nat.add_assoc _ _ _))⟩)) | (go_at_call 12; (with_reducible refine (pacelineref01_Add.calls ((rd_T30 l0 a2).f5) 0 t161 _ A18.out).mono ?_); rintro e w' ⟨rfl, ⟨nd, rfl⟩⟩; (try first | exact ⟨rfl, _, World.drewN_drewN _ _ _⟩ | exact ⟨rfl, _, Eq.trans (World.drewN_drewN _ _ _) (congrArg (World.drewN _) (Nat.add_assoc _ _ _))⟩))); go_upto_region 13 with (first | (go_at_call 12; (with_reducible refine (pacelineref01_Add.calls ((rd_T30 l0 a2).f2) 0 t160 _ A17.out).mono ?_); rintro e w' ⟨rfl, ⟨nd, rfl⟩⟩; (try first | exact ⟨rfl, _, World.drewN_drewN _ _ _⟩ | exact ⟨rfl, _, Eq.trans (World.drewN_drewN _ _ _) (congrArg (World.drewN _) (Nat.add_assoc _ _ _))⟩)) | (go_at_call 12; (with_reducible refine (pacelineref01_Add.calls ((rd_T30 l0 a2).f5) 0 t161 _ A18.out).mono ?_); rintro e w' ⟨rfl, ⟨nd, rfl⟩⟩; (try first | exact ⟨rfl, _, World.drewN_drewN _ _ _⟩ | exact ⟨rfl, _, Eq.trans (World.drewN_drewN _ _ _) (congrArg (World.drewN _) (Nat.add_assoc _ _ _))⟩))))
              (try simp only [Act.put, List.setIfInBounds_toArray, List.set_cons_zero, List.set_cons_succ])
              go_cut [71] (fun v71 wc => ∃ (kq : Nat) (x71_18 : Bool), v71 = .bool x71_18 ∧ Aside0 (pacelinelaw18_fit.j1 kq l1 a2 x8_1 t160 t161 t160 x71_18 true ((rd_T30 l0 a2).f1) ((rd_T30 l0 a2).f2) ((rd_T30 l0 a2).f3) ((rd_T30 l0 a2).f4) ((rd_T30 l0 a2).f5) ((rd_T30 l0 a2).f6) = some r) ∧ Aside0 (kq ≤ k1) ∧ Aside0 (wc.heap[gb156]? = some (.cells #[.bool true, .bool ((rd_T30 l0 a2).f1), .int .i64 ((rd_T30 l0 a2).f2), .int .i64 ((rd_T30 l0 a2).f3), .int .i64 ((rd_T30 l0 a2).f4), .int .i64 ((rd_T30 l0 a2).f5), .int .i64 ((rd_T30 l0 a2).f6)] 30 (0, 0))) ∧ Aside0 (Below w.heap.size w wc))
              case first =>
                have H := HC19.out
                clear HC19
                by_cases c21 : ((rd_T30 l0 a2).f4) = 1
                · rw [if_pos c21] at H
                  have c21b0 : (((rd_T30 l0 a2).f4) == 1) = true := beq_iff_eq.mpr c21
                  have c21b1 : (((rd_T30 l0 a2).f4) != 1) = false := bne_eq_false_iff_eq.mpr c21
                  clear c21
                  (first | rw [c21b0] | (simp only [i64_w, i32_w]; rw [c21b0]) | skip)
                  have H' := Aside0.mk H
                  clear H
                  have hcz22_0 : wr.cell? ⟨gb156, 0, none⟩ = some (.bool true) := (blk_cell BK156.out 0).trans rfl
                  have hcz22_1 : wr.cell? ⟨gb156, 1, none⟩ = some (.bool ((rd_T30 l0 a2).f1)) := (blk_cell BK156.out 1).trans rfl
                  have hcz22_2 : wr.cell? ⟨gb156, 2, none⟩ = some (.int .i64 ((rd_T30 l0 a2).f2)) := (blk_cell BK156.out 2).trans rfl
                  have hcz22_3 : wr.cell? ⟨gb156, 3, none⟩ = some (.int .i64 ((rd_T30 l0 a2).f3)) := (blk_cell BK156.out 3).trans rfl
                  have hcz22_4 : wr.cell? ⟨gb156, 4, none⟩ = some (.int .i64 ((rd_T30 l0 a2).f4)) := (blk_cell BK156.out 4).trans rfl
                  have hcz22_5 : wr.cell? ⟨gb156, 5, none⟩ = some (.int .i64 ((rd_T30 l0 a2).f5)) := (blk_cell BK156.out 5).trans rfl
                  have hcz22_6 : wr.cell? ⟨gb156, 6, none⟩ = some (.int .i64 ((rd_T30 l0 a2).f6)) := (blk_cell BK156.out 6).trans rfl
                  have hfz22_0 := blk_frozen BK156.out 0
                  have hfz22_1 := blk_frozen BK156.out 1
                  have hfz22_2 := blk_frozen BK156.out 2
                  have hfz22_3 := blk_frozen BK156.out 3
                  have hfz22_4 := blk_frozen BK156.out 4
                  have hfz22_5 := blk_frozen BK156.out 5
                  have hfz22_6 := blk_frozen BK156.out 6
                  go_wp2
                  repeat (go_quiet (fail); try go_wp2)
                  go_meet
                  case rel => exact ⟨_, (true), (by first | rfl | (simp; done) | (simp [*]; done)), H', ⟨by have := HK1.out; first | omega | exact Nat.le_refl _⟩, ⟨by (with_reducible repeat (first | refine blk_drewN ?_ _ | refine blk_drew ?_ | refine blk_alloc ?_ _)); exact BK156.out⟩, ⟨by repeat (first | (with_reducible first | exact HB.out | apply below_alloc | apply pw_below_drewN | apply below_drew1 | refine below_set ?_ GE156.out) | exact HB.out)⟩⟩
                · rw [if_neg c21] at H
                  have c21b0 : (((rd_T30 l0 a2).f4) == 1) = false := beq_eq_false_iff_ne.mpr c21
                  have c21b1 : (((rd_T30 l0 a2).f4) != 1) = true := bne_iff_ne.mpr c21
                  (first | rw [c21b0] | (simp only [i64_w, i32_w]; rw [c21b0]) | skip)
                  by_cases c23 : ((rd_T30 l0 a2).f4) = 2
                  · rw [if_pos c23] at H
                    have c23b0 : (((rd_T30 l0 a2).f4) == 2) = true := beq_iff_eq.mpr c23
                    have c23b1 : (((rd_T30 l0 a2).f4) != 2) = false := bne_eq_false_iff_eq.mpr c23
                    clear c23
                    have H' := Aside0.mk H
                    clear H
                    have hcz24_0 : wr.cell? ⟨gb156, 0, none⟩ = some (.bool true) := (blk_cell BK156.out 0).trans rfl
                    have hcz24_1 : wr.cell? ⟨gb156, 1, none⟩ = some (.bool ((rd_T30 l0 a2).f1)) := (blk_cell BK156.out 1).trans rfl
                    have hcz24_2 : wr.cell? ⟨gb156, 2, none⟩ = some (.int .i64 ((rd_T30 l0 a2).f2)) := (blk_cell BK156.out 2).trans rfl
                    have hcz24_3 : wr.cell? ⟨gb156, 3, none⟩ = some (.int .i64 ((rd_T30 l0 a2).f3)) := (blk_cell BK156.out 3).trans rfl
                    have hcz24_4 : wr.cell? ⟨gb156, 4, none⟩ = some (.int .i64 ((rd_T30 l0 a2).f4)) := (blk_cell BK156.out 4).trans rfl
                    have hcz24_5 : wr.cell? ⟨gb156, 5, none⟩ = some (.int .i64 ((rd_T30 l0 a2).f5)) := (blk_cell BK156.out 5).trans rfl
                    have hcz24_6 : wr.cell? ⟨gb156, 6, none⟩ = some (.int .i64 ((rd_T30 l0 a2).f6)) := (blk_cell BK156.out 6).trans rfl
                    have hfz24_0 := blk_frozen BK156.out 0
                    have hfz24_1 := blk_frozen BK156.out 1
                    have hfz24_2 := blk_frozen BK156.out 2
                    have hfz24_3 := blk_frozen BK156.out 3
                    have hfz24_4 := blk_frozen BK156.out 4
                    have hfz24_5 := blk_frozen BK156.out 5
                    have hfz24_6 := blk_frozen BK156.out 6
                    go_wp2
                    repeat (go_quiet (fail); try go_wp2)
                    go_meet
                    case rel => exact ⟨_, (!((rd_T30 l0 a2).f1)), (by first | rfl | (simp; done) | (simp [*]; done)), H', ⟨by have := HK1.out; first | omega | exact Nat.le_refl _⟩, ⟨by (with_reducible repeat (first | refine blk_drewN ?_ _ | refine blk_drew ?_ | refine blk_alloc ?_ _)); exact BK156.out⟩, ⟨by repeat (first | (with_reducible first | exact HB.out | apply below_alloc | apply pw_below_drewN | apply below_drew1 | refine below_set ?_ GE156.out) | exact HB.out)⟩⟩
                  · rw [if_neg c23] at H
                    have c23b0 : (((rd_T30 l0 a2).f4) == 2) = false := beq_eq_false_iff_ne.mpr c23
                    have c23b1 : (((rd_T30 l0 a2).f4) != 2) = true := bne_iff_ne.mpr c23
                    by_cases c25 : ((rd_T30 l0 a2).f4) = 3
                    · rw [if_pos c25] at H
                      have c25b0 : (((rd_T30 l0 a2).f4) == 3) = true := beq_iff_eq.mpr c25
                      have c25b1 : (((rd_T30 l0 a2).f4) != 3) = false := bne_eq_false_iff_eq.mpr c25
                      clear c25
                      have H' := Aside0.mk H
                      clear H
                      have hcz26_0 : wr.cell? ⟨gb156, 0, none⟩ = some (.bool true) := (blk_cell BK156.out 0).trans rfl
                      have hcz26_1 : wr.cell? ⟨gb156, 1, none⟩ = some (.bool ((rd_T30 l0 a2).f1)) := (blk_cell BK156.out 1).trans rfl
                      have hcz26_2 : wr.cell? ⟨gb156, 2, none⟩ = some (.int .i64 ((rd_T30 l0 a2).f2)) := (blk_cell BK156.out 2).trans rfl
                      have hcz26_3 : wr.cell? ⟨gb156, 3, none⟩ = some (.int .i64 ((rd_T30 l0 a2).f3)) := (blk_cell BK156.out 3).trans rfl
                      have hcz26_4 : wr.cell? ⟨gb156, 4, none⟩ = some (.int .i64 ((rd_T30 l0 a2).f4)) := (blk_cell BK156.out 4).trans rfl
                      have hcz26_5 : wr.cell? ⟨gb156, 5, none⟩ = some (.int .i64 ((rd_T30 l0 a2).f5)) := (blk_cell BK156.out 5).trans rfl
                      have hcz26_6 : wr.cell? ⟨gb156, 6, none⟩ = some (.int .i64 ((rd_T30 l0 a2).f6)) := (blk_cell BK156.out 6).trans rfl
                      have hfz26_0 := blk_frozen BK156.out 0
                      have hfz26_1 := blk_frozen BK156.out 1
                      have hfz26_2 := blk_frozen BK156.out 2
                      have hfz26_3 := blk_frozen BK156.out 3
                      have hfz26_4 := blk_frozen BK156.out 4
                      have hfz26_5 := blk_frozen BK156.out 5
                      have hfz26_6 := blk_frozen BK156.out 6
                      go_wp2
                      repeat (go_quiet (fail); try go_wp2)
                      go_meet
                      case rel => exact ⟨_, (!((rd_T30 l0 a2).f1)), (by first | rfl | (simp; done) | (simp [*]; done)), H', ⟨by have := HK1.out; first | omega | exact Nat.le_refl _⟩, ⟨by (with_reducible repeat (first | refine blk_drewN ?_ _ | refine blk_drew ?_ | refine blk_alloc ?_ _)); exact BK156.out⟩, ⟨by repeat (first | (with_reducible first | exact HB.out | apply below_alloc | apply pw_below_drewN | apply below_drew1 | refine below_set ?_ GE156.out) | exact HB.out)⟩⟩
                    · rw [if_neg c25] at H
                      have c25b0 : (((rd_T30 l0 a2).f4) == 3) = false := beq_eq_false_iff_ne.mpr c25
                      have c25b1 : (((rd_T30 l0 a2).f4) != 3) = true := bne_iff_ne.mpr c25
                      have H' := Aside0.mk H
                      clear H
                      have hcz27_0 : wr.cell? ⟨gb156, 0, none⟩ = some (.bool true) := (blk_cell BK156.out 0).trans rfl
                      have hcz27_1 : wr.cell? ⟨gb156, 1, none⟩ = some (.bool ((rd_T30 l0 a2).f1)) := (blk_cell BK156.out 1).trans rfl
                      have hcz27_2 : wr.cell? ⟨gb156, 2, none⟩ = some (.int .i64 ((rd_T30 l0 a2).f2)) := (blk_cell BK156.out 2).trans rfl
                      have hcz27_3 : wr.cell? ⟨gb156, 3, none⟩ = some (.int .i64 ((rd_T30 l0 a2).f3)) := (blk_cell BK156.out 3).trans rfl
                      have hcz27_4 : wr.cell? ⟨gb156, 4, none⟩ = some (.int .i64 ((rd_T30 l0 a2).f4)) := (blk_cell BK156.out 4).trans rfl
                      have hcz27_5 : wr.cell? ⟨gb156, 5, none⟩ = some (.int .i64 ((rd_T30 l0 a2).f5)) := (blk_cell BK156.out 5).trans rfl
                      have hcz27_6 : wr.cell? ⟨gb156, 6, none⟩ = some (.int .i64 ((rd_T30 l0 a2).f6)) := (blk_cell BK156.out 6).trans rfl
                      have hfz27_0 := blk_frozen BK156.out 0
                      have hfz27_1 := blk_frozen BK156.out 1
                      have hfz27_2 := blk_frozen BK156.out 2
                      have hfz27_3 := blk_frozen BK156.out 3
                      have hfz27_4 := blk_frozen BK156.out 4
                      have hfz27_5 := blk_frozen BK156.out 5
                      have hfz27_6 := blk_frozen BK156.out 6
                      go_wp2
                      repeat (go_quiet (fail); try go_wp2)
                      go_meet
                      case rel => exact ⟨_, (false), (by first | rfl | (simp; done) | (simp [*]; done)), H', ⟨by have := HK1.out; first | omega | exact Nat.le_refl _⟩, ⟨by (with_reducible repeat (first | refine blk_drewN ?_ _ | refine blk_drew ?_ | refine blk_alloc ?_ _)); exact BK156.out⟩, ⟨by repeat (first | (with_reducible first | exact HB.out | apply below_alloc | apply pw_below_drewN | apply below_drew1 | refine below_set ?_ GE156.out) | exact HB.out)⟩⟩
              case rest =>
                clear HC19
                try clear c1
                try clear p1
                try clear q1
                try clear hx1
                try clear c2
                try clear p2
                try clear c4
                try clear c4b0
                try clear c5
                try clear c5b0
                try clear p6
                try clear q6
                try clear c7
                try clear c10
                try clear c10b0
                try clear c11
                try clear c11b0
                try clear c11b1
                try clear c12
                try clear c12b0
                try clear c13
                try clear q13
                try clear c14
                try clear c15
                try clear c15b0
                try clear p15
                try clear q15
                try clear hx15
                try clear c21
                try clear c21b0
                try clear c21b1
                try clear c23
                try clear c23b0
                try clear c23b1
                try clear c25
                try clear c25b0
                try clear c25b1
                try clear hcz20_0
                try clear hcz20_1
                try clear hcz20_2
                try clear hcz20_3
                try clear hcz20_4
                try clear hcz20_5
                try clear hcz20_6
                try clear hcz22_0
                try clear hcz22_1
                try clear hcz22_2
                try clear hcz22_3
                try clear hcz22_4
                try clear hcz22_5
                try clear hcz22_6
                try clear hcz24_0
                try clear hcz24_1
                try clear hcz24_2
                try clear hcz24_3
                try clear hcz24_4
                try clear hcz24_5
                try clear hcz24_6
                try clear hcz26_0
                try clear hcz26_1
                try clear hcz26_2
                try clear hcz26_3
                try clear hcz26_4
                try clear hcz26_5
                try clear hcz26_6
                try clear hcz27_0
                try clear hcz27_1
                try clear hcz27_2
                try clear hcz27_3
                try clear hcz27_4
                try clear hcz27_5
                try clear hcz27_6
                try clear hcz9_0
                try clear hcz9_1
                try clear hcz9_2
                try clear hcz9_3
                try clear hcz9_4
                try clear hcz9_5
                try clear hcz9_6
                try clear hfz20_0
                try clear hfz20_1
                try clear hfz20_2
                try clear hfz20_3
                try clear hfz20_4
                try clear hfz20_5
                try clear hfz20_6
                try clear hfz22_0
                try clear hfz22_1
                try clear hfz22_2
                try clear hfz22_3
                try clear hfz22_4
                try clear hfz22_5
                try clear hfz22_6
                try clear hfz24_0
                try clear hfz24_1
                try clear hfz24_2
                try clear hfz24_3
                try clear hfz24_4
                try clear hfz24_5
                try clear hfz24_6
                try clear hfz26_0
                try clear hfz26_1
                try clear hfz26_2
                try clear hfz26_3
                try clear hfz26_4
                try clear hfz26_5
                try clear hfz26_6
                try clear hfz27_0
                try clear hfz27_1
                try clear hfz27_2
                try clear hfz27_3
                try clear hfz27_4
                try clear hfz27_5
                try clear hfz27_6
                try clear hfz9_0
                try clear hfz9_1
                try clear hfz9_2
                try clear hfz9_3
                try clear hfz9_4
                try clear hfz9_5
                try clear hfz9_6
                try clear hx155_0
                try clear hx155_1
                try clear hx155_2
                try clear hx155_3
                try clear hx155_4
                try clear hx155_5
                try clear hx155_6
                try clear hx158_0
                try clear hx158_1
                try clear hx158_2
                try clear hx158_3
                try clear hx158_4
                try clear hx158_5
                try clear hx158_6
                try clear hx159_0
                try clear p1
                try clear p155
                try clear p158
                try clear p159
                try clear p2
                try clear q1
                try clear q155
                try clear q158
                try clear q159
                try clear q6
                obtain ⟨kq, x71_18, rfl, HA, HJ18, BK156, HB⟩ := hcut
                cases kq with
                | zero => exact absurd HA.out (by simp [pacelinelaw18_fit.j1])
                | succ kj18 =>
                  have H := HA.out
                  clear HA
                  simp only [pacelinelaw18_fit.j1] at H
                  have HC28 := Aside0.mk H
                  clear H
                  go_upto_if 71 with (fail)
                  repeat (go_quiet (fail); go_upto_if 71 with (fail))
                  go_cut [12] (fun v12 wc => ∃ (kq : Nat) (x12_27 : Int), v12 = .int .i64 x12_27 ∧ Aside0 (pacelinelaw18_fit.j2 kq l1 a2 x8_1 t160 t161 x12_27 true ((rd_T30 l0 a2).f1) ((rd_T30 l0 a2).f2) ((rd_T30 l0 a2).f3) ((rd_T30 l0 a2).f4) ((rd_T30 l0 a2).f5) ((rd_T30 l0 a2).f6) = some r) ∧ Aside0 (kq ≤ kj18) ∧ Aside0 (wc.heap[gb156]? = some (.cells #[.bool true, .bool ((rd_T30 l0 a2).f1), .int .i64 ((rd_T30 l0 a2).f2), .int .i64 ((rd_T30 l0 a2).f3), .int .i64 ((rd_T30 l0 a2).f4), .int .i64 ((rd_T30 l0 a2).f5), .int .i64 ((rd_T30 l0 a2).f6)] 30 (0, 0))) ∧ Aside0 (Below w.heap.size w wc))
                  case first =>
                    have H := HC28.out
                    clear HC28
                    by_cases c29 : x71_18 = true
                    · subst c29
                      have H1 : (pacelinelaw18_fit.j2 kj18 l1 a2 x8_1 t160 t161 t161 true ((rd_T30 l0 a2).f1) ((rd_T30 l0 a2).f2) ((rd_T30 l0 a2).f3) ((rd_T30 l0 a2).f4) ((rd_T30 l0 a2).f5) ((rd_T30 l0 a2).f6)) = some r := by rw [if_pos rfl] at H; exact H
                      clear H
                      have H := H1
                      clear H1
                      have H' := Aside0.mk H
                      clear H
                      go_wp2
                      repeat (go_quiet (fail); try go_wp2)
                      go_meet
                      case rel => exact ⟨_, (t161), (by first | rfl | (simp; done) | (simp [*]; done)), H', ⟨by have := HK1.out; have := HJ18.out; first | omega | exact Nat.le_refl _⟩, ⟨by (with_reducible repeat (first | refine blk_drewN ?_ _ | refine blk_drew ?_ | refine blk_alloc ?_ _)); exact BK156.out⟩, ⟨by repeat (first | (with_reducible first | exact HB.out | apply below_alloc | apply pw_below_drewN | apply below_drew1 | refine below_set ?_ GE156.out) | exact HB.out)⟩⟩
                    · replace c29 := Bool.eq_false_iff.mpr c29
                      subst c29
                      have H1 : (pacelinelaw18_fit.j2 kj18 l1 a2 x8_1 t160 t161 t160 true ((rd_T30 l0 a2).f1) ((rd_T30 l0 a2).f2) ((rd_T30 l0 a2).f3) ((rd_T30 l0 a2).f4) ((rd_T30 l0 a2).f5) ((rd_T30 l0 a2).f6)) = some r := by rw [if_neg (show ¬ (false = true) by decide)] at H; exact H
                      clear H
                      have H := H1
                      clear H1
                      have H' := Aside0.mk H
                      clear H
                      go_wp2
                      repeat (go_quiet (fail); try go_wp2)
                      go_meet
                      case rel => exact ⟨_, (t160), (by first | rfl | (simp; done) | (simp [*]; done)), H', ⟨by have := HK1.out; have := HJ18.out; first | omega | exact Nat.le_refl _⟩, ⟨by (with_reducible repeat (first | refine blk_drewN ?_ _ | refine blk_drew ?_ | refine blk_alloc ?_ _)); exact BK156.out⟩, ⟨by repeat (first | (with_reducible first | exact HB.out | apply below_alloc | apply pw_below_drewN | apply below_drew1 | refine below_set ?_ GE156.out) | exact HB.out)⟩⟩
                  case rest =>
                    clear HC28
                    try clear c1
                    try clear p1
                    try clear q1
                    try clear hx1
                    try clear c2
                    try clear p2
                    try clear c4
                    try clear c4b0
                    try clear c5
                    try clear c5b0
                    try clear p6
                    try clear q6
                    try clear c7
                    try clear c10
                    try clear c10b0
                    try clear c11
                    try clear c11b0
                    try clear c11b1
                    try clear c12
                    try clear c12b0
                    try clear c13
                    try clear q13
                    try clear c14
                    try clear c15
                    try clear c15b0
                    try clear p15
                    try clear q15
                    try clear hx15
                    try clear c21
                    try clear c21b0
                    try clear c21b1
                    try clear c23
                    try clear c23b0
                    try clear c23b1
                    try clear c25
                    try clear c25b0
                    try clear c25b1
                    try clear c29
                    try clear hcz20_0
                    try clear hcz20_1
                    try clear hcz20_2
                    try clear hcz20_3
                    try clear hcz20_4
                    try clear hcz20_5
                    try clear hcz20_6
                    try clear hcz22_0
                    try clear hcz22_1
                    try clear hcz22_2
                    try clear hcz22_3
                    try clear hcz22_4
                    try clear hcz22_5
                    try clear hcz22_6
                    try clear hcz24_0
                    try clear hcz24_1
                    try clear hcz24_2
                    try clear hcz24_3
                    try clear hcz24_4
                    try clear hcz24_5
                    try clear hcz24_6
                    try clear hcz26_0
                    try clear hcz26_1
                    try clear hcz26_2
                    try clear hcz26_3
                    try clear hcz26_4
                    try clear hcz26_5
                    try clear hcz26_6
                    try clear hcz27_0
                    try clear hcz27_1
                    try clear hcz27_2
                    try clear hcz27_3
                    try clear hcz27_4
                    try clear hcz27_5
                    try clear hcz27_6
                    try clear hcz9_0
                    try clear hcz9_1
                    try clear hcz9_2
                    try clear hcz9_3
                    try clear hcz9_4
                    try clear hcz9_5
                    try clear hcz9_6
                    try clear hfz20_0
                    try clear hfz20_1
                    try clear hfz20_2
                    try clear hfz20_3
                    try clear hfz20_4
                    try clear hfz20_5
                    try clear hfz20_6
                    try clear hfz22_0
                    try clear hfz22_1
                    try clear hfz22_2
                    try clear hfz22_3
                    try clear hfz22_4
                    try clear hfz22_5
                    try clear hfz22_6
                    try clear hfz24_0
                    try clear hfz24_1
                    try clear hfz24_2
                    try clear hfz24_3
                    try clear hfz24_4
                    try clear hfz24_5
                    try clear hfz24_6
                    try clear hfz26_0
                    try clear hfz26_1
                    try clear hfz26_2
                    try clear hfz26_3
                    try clear hfz26_4
                    try clear hfz26_5
                    try clear hfz26_6
                    try clear hfz27_0
                    try clear hfz27_1
                    try clear hfz27_2
                    try clear hfz27_3
                    try clear hfz27_4
                    try clear hfz27_5
                    try clear hfz27_6
                    try clear hfz9_0
                    try clear hfz9_1
                    try clear hfz9_2
                    try clear hfz9_3
                    try clear hfz9_4
                    try clear hfz9_5
                    try clear hfz9_6
                    try clear hx155_0
                    try clear hx155_1
                    try clear hx155_2
                    try clear hx155_3
                    try clear hx155_4
                    try clear hx155_5
                    try clear hx155_6
                    try clear hx158_0
                    try clear hx158_1
                    try clear hx158_2
                    try clear hx158_3
                    try clear hx158_4
                    try clear hx158_5
                    try clear hx158_6
                    try clear hx159_0
                    try clear p1
                    try clear p15
                    try clear p155
                    try clear p158
                    try clear p159
                    try clear p2
                    try clear p6
                    try clear q1
                    try clear q13
                    try clear q15
                    try clear q155
                    try clear q158
                    try clear q159
                    try clear q6
                    obtain ⟨kq, x12_27, rfl, HA, HJ27, BK156, HB⟩ := hcut
                    cases kq with
                    | zero => exact absurd HA.out (by simp [pacelinelaw18_fit.j2])
                    | succ kj27 =>
                      have H := HA.out
                      clear HA
                      simp only [pacelinelaw18_fit.j2] at H
                      have HC30 := Aside0.mk H
                      clear H
                      go_upto_region 15 with (fail)
                      repeat (go_quiet (fail); go_upto_region 15 with (fail))
                      go_cut [84] (fun v84 wc => ∃ (kq : Nat) (x84_29 : Bool), v84 = .bool x84_29 ∧ Aside0 (pacelinelaw18_fit.j3 kq l1 a2 x8_1 t160 t161 x12_27 x84_29 true ((rd_T30 l0 a2).f1) ((rd_T30 l0 a2).f2) ((rd_T30 l0 a2).f3) ((rd_T30 l0 a2).f4) ((rd_T30 l0 a2).f5) ((rd_T30 l0 a2).f6) = some r) ∧ Aside0 (kq ≤ kj27) ∧ Aside0 (wc.heap[gb156]? = some (.cells #[.bool true, .bool ((rd_T30 l0 a2).f1), .int .i64 ((rd_T30 l0 a2).f2), .int .i64 ((rd_T30 l0 a2).f3), .int .i64 ((rd_T30 l0 a2).f4), .int .i64 ((rd_T30 l0 a2).f5), .int .i64 ((rd_T30 l0 a2).f6)] 30 (0, 0))) ∧ Aside0 (Below w.heap.size w wc))
                      case first =>
                        have H := HC30.out
                        clear HC30
                        by_cases c31 : ((rd_T30 l0 a2).f4) = 2
                        · rw [if_pos c31] at H
                          have c31b0 : (((rd_T30 l0 a2).f4) == 2) = true := beq_iff_eq.mpr c31
                          have c31b1 : (((rd_T30 l0 a2).f4) != 2) = false := bne_eq_false_iff_eq.mpr c31
                          clear c31
                          (first | rw [c31b0] | (simp only [i64_w, i32_w]; rw [c31b0]) | skip)
                          have H' := Aside0.mk H
                          clear H
                          have hcz32_0 : wc.cell? ⟨gb156, 0, none⟩ = some (.bool true) := (blk_cell BK156.out 0).trans rfl
                          have hcz32_1 : wc.cell? ⟨gb156, 1, none⟩ = some (.bool ((rd_T30 l0 a2).f1)) := (blk_cell BK156.out 1).trans rfl
                          have hcz32_2 : wc.cell? ⟨gb156, 2, none⟩ = some (.int .i64 ((rd_T30 l0 a2).f2)) := (blk_cell BK156.out 2).trans rfl
                          have hcz32_3 : wc.cell? ⟨gb156, 3, none⟩ = some (.int .i64 ((rd_T30 l0 a2).f3)) := (blk_cell BK156.out 3).trans rfl
                          have hcz32_4 : wc.cell? ⟨gb156, 4, none⟩ = some (.int .i64 ((rd_T30 l0 a2).f4)) := (blk_cell BK156.out 4).trans rfl
                          have hcz32_5 : wc.cell? ⟨gb156, 5, none⟩ = some (.int .i64 ((rd_T30 l0 a2).f5)) := (blk_cell BK156.out 5).trans rfl
                          have hcz32_6 : wc.cell? ⟨gb156, 6, none⟩ = some (.int .i64 ((rd_T30 l0 a2).f6)) := (blk_cell BK156.out 6).trans rfl
                          have hfz32_0 := blk_frozen BK156.out 0
                          have hfz32_1 := blk_frozen BK156.out 1
                          have hfz32_2 := blk_frozen BK156.out 2
                          have hfz32_3 := blk_frozen BK156.out 3
                          have hfz32_4 := blk_frozen BK156.out 4
                          have hfz32_5 := blk_frozen BK156.out 5
                          have hfz32_6 := blk_frozen BK156.out 6
                          go_wp2
                          repeat (go_quiet (fail); try go_wp2)
                          go_meet
                          case rel => exact ⟨_, (((rd_T30 l0 a2).f1)), (by first | rfl | (simp; done) | (simp [*]; done)), H', ⟨by have := HK1.out; have := HJ18.out; have := HJ27.out; first | omega | exact Nat.le_refl _⟩, ⟨by (with_reducible repeat (first | refine blk_drewN ?_ _ | refine blk_drew ?_ | refine blk_alloc ?_ _)); exact BK156.out⟩, ⟨by repeat (first | (with_reducible first | exact HB.out | apply below_alloc | apply pw_below_drewN | apply below_drew1 | refine below_set ?_ GE156.out) | exact HB.out)⟩⟩
                        · rw [if_neg c31] at H
                          have c31b0 : (((rd_T30 l0 a2).f4) == 2) = false := beq_eq_false_iff_ne.mpr c31
                          have c31b1 : (((rd_T30 l0 a2).f4) != 2) = true := bne_iff_ne.mpr c31
                          (first | rw [c31b0] | (simp only [i64_w, i32_w]; rw [c31b0]) | skip)
                          by_cases c33 : ((rd_T30 l0 a2).f4) = 3
                          · rw [if_pos c33] at H
                            have c33b0 : (((rd_T30 l0 a2).f4) == 3) = true := beq_iff_eq.mpr c33
                            have c33b1 : (((rd_T30 l0 a2).f4) != 3) = false := bne_eq_false_iff_eq.mpr c33
                            clear c33
                            have H' := Aside0.mk H
                            clear H
                            have hcz34_0 : wc.cell? ⟨gb156, 0, none⟩ = some (.bool true) := (blk_cell BK156.out 0).trans rfl
                            have hcz34_1 : wc.cell? ⟨gb156, 1, none⟩ = some (.bool ((rd_T30 l0 a2).f1)) := (blk_cell BK156.out 1).trans rfl
                            have hcz34_2 : wc.cell? ⟨gb156, 2, none⟩ = some (.int .i64 ((rd_T30 l0 a2).f2)) := (blk_cell BK156.out 2).trans rfl
                            have hcz34_3 : wc.cell? ⟨gb156, 3, none⟩ = some (.int .i64 ((rd_T30 l0 a2).f3)) := (blk_cell BK156.out 3).trans rfl
                            have hcz34_4 : wc.cell? ⟨gb156, 4, none⟩ = some (.int .i64 ((rd_T30 l0 a2).f4)) := (blk_cell BK156.out 4).trans rfl
                            have hcz34_5 : wc.cell? ⟨gb156, 5, none⟩ = some (.int .i64 ((rd_T30 l0 a2).f5)) := (blk_cell BK156.out 5).trans rfl
                            have hcz34_6 : wc.cell? ⟨gb156, 6, none⟩ = some (.int .i64 ((rd_T30 l0 a2).f6)) := (blk_cell BK156.out 6).trans rfl
                            have hfz34_0 := blk_frozen BK156.out 0
                            have hfz34_1 := blk_frozen BK156.out 1
                            have hfz34_2 := blk_frozen BK156.out 2
                            have hfz34_3 := blk_frozen BK156.out 3
                            have hfz34_4 := blk_frozen BK156.out 4
                            have hfz34_5 := blk_frozen BK156.out 5
                            have hfz34_6 := blk_frozen BK156.out 6
                            go_wp2
                            repeat (go_quiet (fail); try go_wp2)
                            go_meet
                            case rel => exact ⟨_, (((rd_T30 l0 a2).f1)), (by first | rfl | (simp; done) | (simp [*]; done)), H', ⟨by have := HK1.out; have := HJ18.out; have := HJ27.out; first | omega | exact Nat.le_refl _⟩, ⟨by (with_reducible repeat (first | refine blk_drewN ?_ _ | refine blk_drew ?_ | refine blk_alloc ?_ _)); exact BK156.out⟩, ⟨by repeat (first | (with_reducible first | exact HB.out | apply below_alloc | apply pw_below_drewN | apply below_drew1 | refine below_set ?_ GE156.out) | exact HB.out)⟩⟩
                          · rw [if_neg c33] at H
                            have c33b0 : (((rd_T30 l0 a2).f4) == 3) = false := beq_eq_false_iff_ne.mpr c33
                            have c33b1 : (((rd_T30 l0 a2).f4) != 3) = true := bne_iff_ne.mpr c33
                            have H' := Aside0.mk H
                            clear H
                            have hcz35_0 : wc.cell? ⟨gb156, 0, none⟩ = some (.bool true) := (blk_cell BK156.out 0).trans rfl
                            have hcz35_1 : wc.cell? ⟨gb156, 1, none⟩ = some (.bool ((rd_T30 l0 a2).f1)) := (blk_cell BK156.out 1).trans rfl
                            have hcz35_2 : wc.cell? ⟨gb156, 2, none⟩ = some (.int .i64 ((rd_T30 l0 a2).f2)) := (blk_cell BK156.out 2).trans rfl
                            have hcz35_3 : wc.cell? ⟨gb156, 3, none⟩ = some (.int .i64 ((rd_T30 l0 a2).f3)) := (blk_cell BK156.out 3).trans rfl
                            have hcz35_4 : wc.cell? ⟨gb156, 4, none⟩ = some (.int .i64 ((rd_T30 l0 a2).f4)) := (blk_cell BK156.out 4).trans rfl
                            have hcz35_5 : wc.cell? ⟨gb156, 5, none⟩ = some (.int .i64 ((rd_T30 l0 a2).f5)) := (blk_cell BK156.out 5).trans rfl
                            have hcz35_6 : wc.cell? ⟨gb156, 6, none⟩ = some (.int .i64 ((rd_T30 l0 a2).f6)) := (blk_cell BK156.out 6).trans rfl
                            have hfz35_0 := blk_frozen BK156.out 0
                            have hfz35_1 := blk_frozen BK156.out 1
                            have hfz35_2 := blk_frozen BK156.out 2
                            have hfz35_3 := blk_frozen BK156.out 3
                            have hfz35_4 := blk_frozen BK156.out 4
                            have hfz35_5 := blk_frozen BK156.out 5
                            have hfz35_6 := blk_frozen BK156.out 6
                            go_wp2
                            repeat (go_quiet (fail); try go_wp2)
                            go_meet
                            case rel => exact ⟨_, (false), (by first | rfl | (simp; done) | (simp [*]; done)), H', ⟨by have := HK1.out; have := HJ18.out; have := HJ27.out; first | omega | exact Nat.le_refl _⟩, ⟨by (with_reducible repeat (first | refine blk_drewN ?_ _ | refine blk_drew ?_ | refine blk_alloc ?_ _)); exact BK156.out⟩, ⟨by repeat (first | (with_reducible first | exact HB.out | apply below_alloc | apply pw_below_drewN | apply below_drew1 | refine below_set ?_ GE156.out) | exact HB.out)⟩⟩
                      case rest =>
                        clear HC30
                        try clear c1
                        try clear p1
                        try clear q1
                        try clear hx1
                        try clear c2
                        try clear p2
                        try clear c3
                        try clear c4
                        try clear c4b0
                        try clear c5
                        try clear c5b0
                        try clear p6
                        try clear q6
                        try clear c7
                        try clear c10
                        try clear c10b0
                        try clear c11
                        try clear c11b0
                        try clear c11b1
                        try clear c12
                        try clear c12b0
                        try clear c13
                        try clear q13
                        try clear c14
                        try clear c15
                        try clear c15b0
                        try clear p15
                        try clear q15
                        try clear hx15
                        try clear c21
                        try clear c21b0
                        try clear c21b1
                        try clear c23
                        try clear c23b0
                        try clear c23b1
                        try clear c25
                        try clear c25b0
                        try clear c25b1
                        try clear c29
                        try clear c31
                        try clear c31b0
                        try clear c31b1
                        try clear c33
                        try clear c33b0
                        try clear c33b1
                        try clear hcz20_0
                        try clear hcz20_1
                        try clear hcz20_2
                        try clear hcz20_3
                        try clear hcz20_4
                        try clear hcz20_5
                        try clear hcz20_6
                        try clear hcz22_0
                        try clear hcz22_1
                        try clear hcz22_2
                        try clear hcz22_3
                        try clear hcz22_4
                        try clear hcz22_5
                        try clear hcz22_6
                        try clear hcz24_0
                        try clear hcz24_1
                        try clear hcz24_2
                        try clear hcz24_3
                        try clear hcz24_4
                        try clear hcz24_5
                        try clear hcz24_6
                        try clear hcz26_0
                        try clear hcz26_1
                        try clear hcz26_2
                        try clear hcz26_3
                        try clear hcz26_4
                        try clear hcz26_5
                        try clear hcz26_6
                        try clear hcz27_0
                        try clear hcz27_1
                        try clear hcz27_2
                        try clear hcz27_3
                        try clear hcz27_4
                        try clear hcz27_5
                        try clear hcz27_6
                        try clear hcz32_0
                        try clear hcz32_1
                        try clear hcz32_2
                        try clear hcz32_3
                        try clear hcz32_4
                        try clear hcz32_5
                        try clear hcz32_6
                        try clear hcz34_0
                        try clear hcz34_1
                        try clear hcz34_2
                        try clear hcz34_3
                        try clear hcz34_4
                        try clear hcz34_5
                        try clear hcz34_6
                        try clear hcz35_0
                        try clear hcz35_1
                        try clear hcz35_2
                        try clear hcz35_3
                        try clear hcz35_4
                        try clear hcz35_5
                        try clear hcz35_6
                        try clear hcz9_0
                        try clear hcz9_1
                        try clear hcz9_2
                        try clear hcz9_3
                        try clear hcz9_4
                        try clear hcz9_5
                        try clear hcz9_6
                        try clear hfz20_0
                        try clear hfz20_1
                        try clear hfz20_2
                        try clear hfz20_3
                        try clear hfz20_4
                        try clear hfz20_5
                        try clear hfz20_6
                        try clear hfz22_0
                        try clear hfz22_1
                        try clear hfz22_2
                        try clear hfz22_3
                        try clear hfz22_4
                        try clear hfz22_5
                        try clear hfz22_6
                        try clear hfz24_0
                        try clear hfz24_1
                        try clear hfz24_2
                        try clear hfz24_3
                        try clear hfz24_4
                        try clear hfz24_5
                        try clear hfz24_6
                        try clear hfz26_0
                        try clear hfz26_1
                        try clear hfz26_2
                        try clear hfz26_3
                        try clear hfz26_4
                        try clear hfz26_5
                        try clear hfz26_6
                        try clear hfz27_0
                        try clear hfz27_1
                        try clear hfz27_2
                        try clear hfz27_3
                        try clear hfz27_4
                        try clear hfz27_5
                        try clear hfz27_6
                        try clear hfz32_0
                        try clear hfz32_1
                        try clear hfz32_2
                        try clear hfz32_3
                        try clear hfz32_4
                        try clear hfz32_5
                        try clear hfz32_6
                        try clear hfz34_0
                        try clear hfz34_1
                        try clear hfz34_2
                        try clear hfz34_3
                        try clear hfz34_4
                        try clear hfz34_5
                        try clear hfz34_6
                        try clear hfz35_0
                        try clear hfz35_1
                        try clear hfz35_2
                        try clear hfz35_3
                        try clear hfz35_4
                        try clear hfz35_5
                        try clear hfz35_6
                        try clear hfz9_0
                        try clear hfz9_1
                        try clear hfz9_2
                        try clear hfz9_3
                        try clear hfz9_4
                        try clear hfz9_5
                        try clear hfz9_6
                        try clear hx155_0
                        try clear hx155_1
                        try clear hx155_2
                        try clear hx155_3
                        try clear hx155_4
                        try clear hx155_5
                        try clear hx155_6
                        try clear hx158_0
                        try clear hx158_1
                        try clear hx158_2
                        try clear hx158_3
                        try clear hx158_4
                        try clear hx158_5
                        try clear hx158_6
                        try clear hx159_0
                        try clear p1
                        try clear p15
                        try clear p155
                        try clear p158
                        try clear p159
                        try clear p2
                        try clear p6
                        try clear q1
                        try clear q13
                        try clear q15
                        try clear q155
                        try clear q158
                        try clear q159
                        try clear q6
                        obtain ⟨kq, x84_29, rfl, HA, HJ29, BK156, HB⟩ := hcut
                        cases kq with
                        | zero => exact absurd HA.out (by simp [pacelinelaw18_fit.j3])
                        | succ kj29 =>
                          have H := HA.out
                          clear HA
                          simp only [pacelinelaw18_fit.j3] at H
                          by_cases c36 : x84_29 = true
                          · subst c36
                            have H1 : ((pacelineref01_Add.f ((rd_T30 l0 a2).f6) 0).bind fun t162 => (if 0 ≤ a2 then (if a2 < (l1.length : Int) then ((pacelineref01_Add.f (mx t160 (mn (mn t161 t162) x8_1)) (mx 1 (mn ((rd_T30 l0 a2).f3) 1048576))).bind fun t164 => (some ((rd l1 a2) == t164))) else (none)) else (none))) = some r := by rw [if_pos rfl] at H; exact H
                            clear H
                            have H := H1
                            clear H1
                            replace H := Option.bind_eq_some_iff.mp H
                            obtain ⟨t162, A370, H⟩ := H
                            replace H : (if 0 ≤ a2 then (if a2 < (l1.length : Int) then ((pacelineref01_Add.f (mx t160 (mn (mn t161 t162) x8_1)) (mx 1 (mn ((rd_T30 l0 a2).f3) 1048576))).bind fun t164 => (some ((rd l1 a2) == t164))) else (none)) else (none)) = some r := H
                            have A37 := Aside0.mk A370
                            clear A370
                            obtain ⟨ji38, hji38⟩ : ∃ j_ : Int, (mn t161 t162) = j_ := ⟨_, rfl⟩
                            replace H : (if 0 ≤ a2 then (if a2 < (l1.length : Int) then ((pacelineref01_Add.f (mx t160 (mn (ji38) x8_1)) (mx 1 (mn ((rd_T30 l0 a2).f3) 1048576))).bind fun t164 => (some ((rd l1 a2) == t164))) else (none)) else (none)) = some r := by first | (rw [hji38] at H; exact H) | (simp only [hji38] at H ⊢; exact H)
                            (try rw [hji38] at A37)
                            have hji38_ : (if t162 < t161 then t162 else t161) = ji38 := hji38
                            obtain ⟨ji39, hji39⟩ : ∃ j_ : Int, (mn (ji38) x8_1) = j_ := ⟨_, rfl⟩
                            replace H : (if 0 ≤ a2 then (if a2 < (l1.length : Int) then ((pacelineref01_Add.f (mx t160 (ji39)) (mx 1 (mn ((rd_T30 l0 a2).f3) 1048576))).bind fun t164 => (some ((rd l1 a2) == t164))) else (none)) else (none)) = some r := by first | (rw [hji39] at H; exact H) | (simp only [hji39] at H ⊢; exact H)
                            (try rw [hji39] at A37)
                            have hji39_ : (if x8_1 < (ji38) then x8_1 else (ji38)) = ji39 := hji39
                            obtain ⟨ji40, hji40⟩ : ∃ j_ : Int, (mx t160 (ji39)) = j_ := ⟨_, rfl⟩
                            replace H : (if 0 ≤ a2 then (if a2 < (l1.length : Int) then ((pacelineref01_Add.f (ji40) (mx 1 (mn ((rd_T30 l0 a2).f3) 1048576))).bind fun t164 => (some ((rd l1 a2) == t164))) else (none)) else (none)) = some r := by first | (rw [hji40] at H; exact H) | (simp only [hji40] at H ⊢; exact H)
                            (try rw [hji40] at A37)
                            have hji40_ : (if t160 < (ji39) then (ji39) else t160) = ji40 := hji40
                            by_cases c41 : 0 ≤ a2
                            · rw [if_pos c41] at H
                              have c41b0 : decide (0 ≤ a2) = true := decide_eq_true c41
                              clear c41
                              by_cases c42 : a2 < (l1.length : Int)
                              · rw [if_pos c42] at H
                                have c42b0 : decide (a2 < (l1.length : Int)) = true := decide_eq_true c42
                                clear c42
                                obtain ⟨ji43, hji43⟩ : ∃ j_ : Int, (mn ((rd_T30 l0 a2).f3) 1048576) = j_ := ⟨_, rfl⟩
                                replace H : ((pacelineref01_Add.f (ji40) (mx 1 (ji43))).bind fun t164 => (some ((rd l1 a2) == t164))) = some r := by first | (rw [hji43] at H; exact H) | (simp only [hji43] at H ⊢; exact H)
                                (try rw [hji43] at A37)
                                have hji43_ : (if 1048576 < ((rd_T30 l0 a2).f3) then 1048576 else ((rd_T30 l0 a2).f3)) = ji43 := hji43
                                obtain ⟨ji44, hji44⟩ : ∃ j_ : Int, (mx 1 (ji43)) = j_ := ⟨_, rfl⟩
                                replace H : ((pacelineref01_Add.f (ji40) (ji44)).bind fun t164 => (some ((rd l1 a2) == t164))) = some r := by first | (rw [hji44] at H; exact H) | (simp only [hji44] at H ⊢; exact H)
                                (try rw [hji44] at A37)
                                have hji44_ : (if 1 < (ji43) then (ji43) else 1) = ji44 := hji44
                                replace H := Option.bind_eq_some_iff.mp H
                                obtain ⟨t164, A450, H⟩ := H
                                replace H : (some ((rd l1 a2) == t164)) = some r := H
                                have A45 := Aside0.mk A450
                                clear A450
                                obtain rfl := Option.some.inj H
                                have hcz46_0 : wc.cell? ⟨gb156, 0, none⟩ = some (.bool true) := (blk_cell BK156.out 0).trans rfl
                                have hcz46_1 : wc.cell? ⟨gb156, 1, none⟩ = some (.bool ((rd_T30 l0 a2).f1)) := (blk_cell BK156.out 1).trans rfl
                                have hcz46_2 : wc.cell? ⟨gb156, 2, none⟩ = some (.int .i64 ((rd_T30 l0 a2).f2)) := (blk_cell BK156.out 2).trans rfl
                                have hcz46_3 : wc.cell? ⟨gb156, 3, none⟩ = some (.int .i64 ((rd_T30 l0 a2).f3)) := (blk_cell BK156.out 3).trans rfl
                                have hcz46_4 : wc.cell? ⟨gb156, 4, none⟩ = some (.int .i64 ((rd_T30 l0 a2).f4)) := (blk_cell BK156.out 4).trans rfl
                                have hcz46_5 : wc.cell? ⟨gb156, 5, none⟩ = some (.int .i64 ((rd_T30 l0 a2).f5)) := (blk_cell BK156.out 5).trans rfl
                                have hcz46_6 : wc.cell? ⟨gb156, 6, none⟩ = some (.int .i64 ((rd_T30 l0 a2).f6)) := (blk_cell BK156.out 6).trans rfl
                                have hfz46_0 := blk_frozen BK156.out 0
                                have hfz46_1 := blk_frozen BK156.out 1
                                have hfz46_2 := blk_frozen BK156.out 2
                                have hfz46_3 := blk_frozen BK156.out 3
                                have hfz46_4 := blk_frozen BK156.out 4
                                have hfz46_5 := blk_frozen BK156.out 5
                                have hfz46_6 := blk_frozen BK156.out 6
                                go_wp2_with (first | (go_at_call 12; (with_reducible refine (pacelineref01_Add.calls ((rd_T30 l0 a2).f6) 0 t162 _ A37.out).mono ?_); rintro e w' ⟨rfl, ⟨nd, rfl⟩⟩; (try first | exact ⟨rfl, _, World.drewN_drewN _ _ _⟩ | exact ⟨rfl, _, Eq.trans (World.drewN_drewN _ _ _) (congrArg (World.drewN _) (Nat.add_assoc _ _ _))⟩); have p163 : 0 ≤ (a2 : Int) := of_decide_eq_true (by first | (with_reducible assumption) | assumption); have q163 : a2 < (l1.length : Int) := of_decide_eq_true (by first | (with_reducible assumption) | assumption); obtain ⟨ad163, e163, hx163_0⟩ := Kd.at_int HR1.out a2 p163 q163; cases e163; replace hx163_0 := (HB.out.cell (World.block_lt_of_cell? w _ hx163_0)).trans hx163_0; replace p163 := eq_true p163; replace q163 := eq_true q163) | (go_at_call 12; (with_reducible refine (pacelineref01_Add.calls ji40 ji44 t164 _ A45.out).mono ?_); rintro e w' ⟨rfl, ⟨nd, rfl⟩⟩; (try first | exact ⟨rfl, _, World.drewN_drewN _ _ _⟩ | exact ⟨rfl, _, Eq.trans (World.drewN_drewN _ _ _) (congrArg (World.drewN _) (Nat.add_assoc _ _ _))⟩)))
                                repeat (go_quiet (first | (go_at_call 12; (with_reducible refine (pacelineref01_Add.calls ((rd_T30 l0 a2).f6) 0 t162 _ A37.out).mono ?_); rintro e w' ⟨rfl, ⟨nd, rfl⟩⟩; (try first | exact ⟨rfl, _, World.drewN_drewN _ _ _⟩ | exact ⟨rfl, _, Eq.trans (World.drewN_drewN _ _ _) (congrArg (World.drewN _) (Nat.add_assoc _ _ _))⟩); have p163 : 0 ≤ (a2 : Int) := of_decide_eq_true (by first | (with_reducible assumption) | assumption); have q163 : a2 < (l1.length : Int) := of_decide_eq_true (by first | (with_reducible assumption) | assumption); obtain ⟨ad163, e163, hx163_0⟩ := Kd.at_int HR1.out a2 p163 q163; cases e163; replace hx163_0 := (HB.out.cell (World.block_lt_of_cell? w _ hx163_0)).trans hx163_0; replace p163 := eq_true p163; replace q163 := eq_true q163) | (go_at_call 12; (with_reducible refine (pacelineref01_Add.calls ji40 ji44 t164 _ A45.out).mono ?_); rintro e w' ⟨rfl, ⟨nd, rfl⟩⟩; (try first | exact ⟨rfl, _, World.drewN_drewN _ _ _⟩ | exact ⟨rfl, _, Eq.trans (World.drewN_drewN _ _ _) (congrArg (World.drewN _) (Nat.add_assoc _ _ _))⟩))); try go_wp2_with (first | (go_at_call 12; (with_reducible refine (pacelineref01_Add.calls ((rd_T30 l0 a2).f6) 0 t162 _ A37.out).mono ?_); rintro e w' ⟨rfl, ⟨nd, rfl⟩⟩; (try first | exact ⟨rfl, _, World.drewN_drewN _ _ _⟩ | exact ⟨rfl, _, Eq.trans (World.drewN_drewN _ _ _) (congrArg (World.drewN _) (Nat.add_assoc _ _ _))⟩); have p163 : 0 ≤ (a2 : Int) := of_decide_eq_true (by first | (with_reducible assumption) | assumption); have q163 : a2 < (l1.length : Int) := of_decide_eq_true (by first | (with_reducible assumption) | assumption); obtain ⟨ad163, e163, hx163_0⟩ := Kd.at_int HR1.out a2 p163 q163; cases e163; replace hx163_0 := (HB.out.cell (World.block_lt_of_cell? w _ hx163_0)).trans hx163_0; replace p163 := eq_true p163; replace q163 := eq_true q163) | (go_at_call 12; (with_reducible refine (pacelineref01_Add.calls ji40 ji44 t164 _ A45.out).mono ?_); rintro e w' ⟨rfl, ⟨nd, rfl⟩⟩; (try first | exact ⟨rfl, _, World.drewN_drewN _ _ _⟩ | exact ⟨rfl, _, Eq.trans (World.drewN_drewN _ _ _) (congrArg (World.drewN _) (Nat.add_assoc _ _ _))⟩))))
                                go_ret
                                exact ⟨by first | rfl | (simp [errW_none, errW_some] <;> rfl) | (simp only [← hji38, ← hji39, ← hji40, ← hji43, ← hji44]; first | rfl | (simp [errW_none, errW_some] <;> rfl)) | (simp [*, errW_none, errW_some] <;> rfl), by repeat (first | (with_reducible first | exact HB.out | apply below_alloc | apply pw_below_drewN | apply below_drew1 | refine below_set ?_ GE156.out) | exact HB.out)⟩
                              · rw [if_neg c42] at H
                                exact absurd H (by simp)
                            · rw [if_neg c41] at H
                              exact absurd H (by simp)
                          · replace c36 := Bool.eq_false_iff.mpr c36
                            subst c36
                            have H1 : (if 0 ≤ a2 then (if a2 < (l1.length : Int) then ((pacelineref01_Add.f x12_27 (mx 1 (mn ((rd_T30 l0 a2).f3) 1048576))).bind fun t166 => (some ((rd l1 a2) == t166))) else (none)) else (none)) = some r := by rw [if_neg (show ¬ (false = true) by decide)] at H; exact H
                            clear H
                            have H := H1
                            clear H1
                            by_cases c47 : 0 ≤ a2
                            · rw [if_pos c47] at H
                              have c47b0 : decide (0 ≤ a2) = true := decide_eq_true c47
                              clear c47
                              by_cases c48 : a2 < (l1.length : Int)
                              · rw [if_pos c48] at H
                                have c48b0 : decide (a2 < (l1.length : Int)) = true := decide_eq_true c48
                                clear c48
                                obtain ⟨ji49, hji49⟩ : ∃ j_ : Int, (mn ((rd_T30 l0 a2).f3) 1048576) = j_ := ⟨_, rfl⟩
                                replace H : ((pacelineref01_Add.f x12_27 (mx 1 (ji49))).bind fun t166 => (some ((rd l1 a2) == t166))) = some r := by first | (rw [hji49] at H; exact H) | (simp only [hji49] at H ⊢; exact H)
                                have hji49_ : (if 1048576 < ((rd_T30 l0 a2).f3) then 1048576 else ((rd_T30 l0 a2).f3)) = ji49 := hji49
                                obtain ⟨ji50, hji50⟩ : ∃ j_ : Int, (mx 1 (ji49)) = j_ := ⟨_, rfl⟩
                                replace H : ((pacelineref01_Add.f x12_27 (ji50)).bind fun t166 => (some ((rd l1 a2) == t166))) = some r := by first | (rw [hji50] at H; exact H) | (simp only [hji50] at H ⊢; exact H)
                                have hji50_ : (if 1 < (ji49) then (ji49) else 1) = ji50 := hji50
                                replace H := Option.bind_eq_some_iff.mp H
                                obtain ⟨t166, A510, H⟩ := H
                                replace H : (some ((rd l1 a2) == t166)) = some r := H
                                have A51 := Aside0.mk A510
                                clear A510
                                obtain rfl := Option.some.inj H
                                have p165 : 0 ≤ (a2 : Int) := of_decide_eq_true (by first | (with_reducible assumption) | assumption)
                                have q165 : a2 < (l1.length : Int) := of_decide_eq_true (by first | (with_reducible assumption) | assumption)
                                obtain ⟨ad165, e165, hx165_0⟩ := Kd.at_int HR1.out a2 p165 q165
                                cases e165
                                replace hx165_0 := (HB.out.cell (World.block_lt_of_cell? w _ hx165_0)).trans hx165_0
                                replace p165 := eq_true p165
                                replace q165 := eq_true q165
                                have hcz52_0 : wc.cell? ⟨gb156, 0, none⟩ = some (.bool true) := (blk_cell BK156.out 0).trans rfl
                                have hcz52_1 : wc.cell? ⟨gb156, 1, none⟩ = some (.bool ((rd_T30 l0 a2).f1)) := (blk_cell BK156.out 1).trans rfl
                                have hcz52_2 : wc.cell? ⟨gb156, 2, none⟩ = some (.int .i64 ((rd_T30 l0 a2).f2)) := (blk_cell BK156.out 2).trans rfl
                                have hcz52_3 : wc.cell? ⟨gb156, 3, none⟩ = some (.int .i64 ((rd_T30 l0 a2).f3)) := (blk_cell BK156.out 3).trans rfl
                                have hcz52_4 : wc.cell? ⟨gb156, 4, none⟩ = some (.int .i64 ((rd_T30 l0 a2).f4)) := (blk_cell BK156.out 4).trans rfl
                                have hcz52_5 : wc.cell? ⟨gb156, 5, none⟩ = some (.int .i64 ((rd_T30 l0 a2).f5)) := (blk_cell BK156.out 5).trans rfl
                                have hcz52_6 : wc.cell? ⟨gb156, 6, none⟩ = some (.int .i64 ((rd_T30 l0 a2).f6)) := (blk_cell BK156.out 6).trans rfl
                                have hfz52_0 := blk_frozen BK156.out 0
                                have hfz52_1 := blk_frozen BK156.out 1
                                have hfz52_2 := blk_frozen BK156.out 2
                                have hfz52_3 := blk_frozen BK156.out 3
                                have hfz52_4 := blk_frozen BK156.out 4
                                have hfz52_5 := blk_frozen BK156.out 5
                                have hfz52_6 := blk_frozen BK156.out 6
                                go_wp2_with (first | (go_at_call 12; (with_reducible refine (pacelineref01_Add.calls x12_27 ji50 t166 _ A51.out).mono ?_); rintro e w' ⟨rfl, ⟨nd, rfl⟩⟩; (try first | exact ⟨rfl, _, World.drewN_drewN _ _ _⟩ | exact ⟨rfl, _, Eq.trans (World.drewN_drewN _ _ _) (congrArg (World.drewN _) (Nat.add_assoc _ _ _))⟩)))
                                repeat (go_quiet (first | (go_at_call 12; (with_reducible refine (pacelineref01_Add.calls x12_27 ji50 t166 _ A51.out).mono ?_); rintro e w' ⟨rfl, ⟨nd, rfl⟩⟩; (try first | exact ⟨rfl, _, World.drewN_drewN _ _ _⟩ | exact ⟨rfl, _, Eq.trans (World.drewN_drewN _ _ _) (congrArg (World.drewN _) (Nat.add_assoc _ _ _))⟩))); try go_wp2_with (first | (go_at_call 12; (with_reducible refine (pacelineref01_Add.calls x12_27 ji50 t166 _ A51.out).mono ?_); rintro e w' ⟨rfl, ⟨nd, rfl⟩⟩; (try first | exact ⟨rfl, _, World.drewN_drewN _ _ _⟩ | exact ⟨rfl, _, Eq.trans (World.drewN_drewN _ _ _) (congrArg (World.drewN _) (Nat.add_assoc _ _ _))⟩))))
                                go_ret
                                exact ⟨by first | rfl | (simp [errW_none, errW_some] <;> rfl) | (simp only [← hji49, ← hji50]; first | rfl | (simp [errW_none, errW_some] <;> rfl)) | (simp [*, errW_none, errW_some] <;> rfl), by repeat (first | (with_reducible first | exact HB.out | apply below_alloc | apply pw_below_drewN | apply below_drew1 | refine below_set ?_ GE156.out) | exact HB.out)⟩
                              · rw [if_neg c48] at H
                                exact absurd H (by simp)
                            · rw [if_neg c47] at H
                              exact absurd H (by simp)
      · replace c7 := Bool.eq_false_iff.mpr c7
        subst c7
        have H1 : (if a2 < (l1.length : Int) then (some ((rd l1 a2) == 1125899906842624)) else (none)) = some r := by rw [if_neg (show ¬ (false = true) by decide)] at H; exact H
        clear H
        have H := H1
        clear H1
        by_cases c53 : a2 < (l1.length : Int)
        · rw [if_pos c53] at H
          have c53b0 : decide (a2 < (l1.length : Int)) = true := decide_eq_true c53
          clear c53
          obtain rfl := Option.some.inj H
          have p155 : 0 ≤ (a2 : Int) := of_decide_eq_true (by first | (with_reducible assumption) | assumption)
          have q155 : a2 < (l0.length : Int) := of_decide_eq_true (by first | (with_reducible assumption) | assumption)
          obtain ⟨ad155, e155, hx155_0, hx155_1, hx155_2, hx155_3, hx155_4, hx155_5, hx155_6⟩ := at_T30 HR0.out a2 p155 q155
          (try rw [← Nbq6.out] at hx155_0)
          (try rw [← Nbq6.out] at hx155_1)
          cases e155
          replace p155 := eq_true p155
          replace q155 := eq_true q155
          go_enter Try.func13, Try.ntmps13
          go_wp2_with (first | ((with_reducible refine gate_dst (N := 7) rfl ?_); refine box_event ?hg (N := 7) ?hd (cs := #[.bool false, .bool false, .int .i64 0, .int .i64 0, .int .i64 0, .int .i64 0, .int .i64 0]) (t := 30) ?hr ?_; (case hd => rfl); (case hg => rfl); (case hr => first | (go_simp; done) | (go_simp; rfl)); intro gb156 hg w54 hbox hb; have n0_ := Aside0.mk (below_step (by repeat (first | (with_reducible first | exact HB.out | apply below_alloc | apply pw_below_drewN | apply below_drew1) | exact HB.out)) hb); have n1_ := Aside0.mk (hbox); have n2_ := Aside0.mk ((by rw [hg]; exact (below_size (by repeat (first | (with_reducible first | exact HB.out | apply below_alloc | apply pw_below_drewN | apply below_drew1) | exact HB.out))) : w.heap.size ≤ gb156)); have n3_ := Aside0.mk ((by rw [hg]; exact (below_size (by repeat (first | (with_reducible first | exact HB.out | apply below_alloc | apply pw_below_drewN | apply below_drew1) | exact HB.out))) : w.heap.size ≤ gb156)); clear HB; have HB := n0_; have BK156 := n1_; have GW156 := n2_; have GE156 := n3_; clear n0_ n1_ n2_ n3_; clear hb hbox hg; have hcz55_0 : w54.cell? ⟨gb156, 0, none⟩ = some (.bool false) := (blk_cell BK156.out 0).trans rfl; have hcz55_1 : w54.cell? ⟨gb156, 1, none⟩ = some (.bool false) := (blk_cell BK156.out 1).trans rfl; have hcz55_2 : w54.cell? ⟨gb156, 2, none⟩ = some (.int .i64 0) := (blk_cell BK156.out 2).trans rfl; have hcz55_3 : w54.cell? ⟨gb156, 3, none⟩ = some (.int .i64 0) := (blk_cell BK156.out 3).trans rfl; have hcz55_4 : w54.cell? ⟨gb156, 4, none⟩ = some (.int .i64 0) := (blk_cell BK156.out 4).trans rfl; have hcz55_5 : w54.cell? ⟨gb156, 5, none⟩ = some (.int .i64 0) := (blk_cell BK156.out 5).trans rfl; have hcz55_6 : w54.cell? ⟨gb156, 6, none⟩ = some (.int .i64 0) := (blk_cell BK156.out 6).trans rfl; have hfz55_0 := blk_frozen BK156.out 0; have hfz55_1 := blk_frozen BK156.out 1; have hfz55_2 := blk_frozen BK156.out 2; have hfz55_3 := blk_frozen BK156.out 3; have hfz55_4 := blk_frozen BK156.out 4; have hfz55_5 := blk_frozen BK156.out 5; have hfz55_6 := blk_frozen BK156.out 6; have p157 : 0 ≤ (a2 : Int) := of_decide_eq_true (by first | (with_reducible assumption) | assumption); have q157 : a2 < (l1.length : Int) := of_decide_eq_true (by first | (with_reducible assumption) | assumption); obtain ⟨ad157, e157, hx157_0⟩ := Kd.at_int HR1.out a2 p157 q157; cases e157; have hn157_0 : ad157.block ≠ gb156 := Nat.ne_of_lt (Nat.lt_of_lt_of_le (by have := World.block_lt_of_cell? _ _ hx157_0; first | rwa [add_block] at this | exact this) GW156.out); have hn157_1 : ad157.block ≠ gb156 := Nat.ne_of_lt (Nat.lt_of_lt_of_le (by have := World.block_lt_of_cell? _ _ hx157_0; first | rwa [add_block] at this | exact this) GW156.out); have hn157_2 : ad157.block ≠ gb156 := Nat.ne_of_lt (Nat.lt_of_lt_of_le (by have := World.block_lt_of_cell? _ _ hx157_0; first | rwa [add_block] at this | exact this) GW156.out); have hn157_3 : ad157.block ≠ gb156 := Nat.ne_of_lt (Nat.lt_of_lt_of_le (by have := World.block_lt_of_cell? _ _ hx157_0; first | rwa [add_block] at this | exact this) GW156.out); have hn157_4 : ad157.block ≠ gb156 := Nat.ne_of_lt (Nat.lt_of_lt_of_le (by have := World.block_lt_of_cell? _ _ hx157_0; first | rwa [add_block] at this | exact this) GW156.out); have hn157_5 : ad157.block ≠ gb156 := Nat.ne_of_lt (Nat.lt_of_lt_of_le (by have := World.block_lt_of_cell? _ _ hx157_0; first | rwa [add_block] at this | exact this) GW156.out); have hn157_6 : ad157.block ≠ gb156 := Nat.ne_of_lt (Nat.lt_of_lt_of_le (by have := World.block_lt_of_cell? _ _ hx157_0; first | rwa [add_block] at this | exact this) GW156.out); replace hx157_0 := (HB.out.cell (World.block_lt_of_cell? w _ hx157_0)).trans hx157_0; replace hx157_0 := (cell_far (p := ⟨gb156, 0, none⟩) (by first | (rw [add_block]; exact hn157_0) | (show (Addr.add _ _).block ≠ _; rw [add_block]; exact hn157_0) | exact hn157_0) (.bool false)).trans hx157_0; replace hx157_0 := (cell_far (p := ⟨gb156, 1, none⟩) (by first | (rw [add_block]; exact hn157_1) | (show (Addr.add _ _).block ≠ _; rw [add_block]; exact hn157_1) | exact hn157_1) (.bool ((rd_T30 l0 a2).f1))).trans hx157_0; replace hx157_0 := (cell_far (p := ⟨gb156, 2, none⟩) (by first | (rw [add_block]; exact hn157_2) | (show (Addr.add _ _).block ≠ _; rw [add_block]; exact hn157_2) | exact hn157_2) (.int .i64 ((rd_T30 l0 a2).f2))).trans hx157_0; replace hx157_0 := (cell_far (p := ⟨gb156, 3, none⟩) (by first | (rw [add_block]; exact hn157_3) | (show (Addr.add _ _).block ≠ _; rw [add_block]; exact hn157_3) | exact hn157_3) (.int .i64 ((rd_T30 l0 a2).f3))).trans hx157_0; replace hx157_0 := (cell_far (p := ⟨gb156, 4, none⟩) (by first | (rw [add_block]; exact hn157_4) | (show (Addr.add _ _).block ≠ _; rw [add_block]; exact hn157_4) | exact hn157_4) (.int .i64 ((rd_T30 l0 a2).f4))).trans hx157_0; replace hx157_0 := (cell_far (p := ⟨gb156, 5, none⟩) (by first | (rw [add_block]; exact hn157_5) | (show (Addr.add _ _).block ≠ _; rw [add_block]; exact hn157_5) | exact hn157_5) (.int .i64 ((rd_T30 l0 a2).f5))).trans hx157_0; replace hx157_0 := (cell_far (p := ⟨gb156, 6, none⟩) (by first | (rw [add_block]; exact hn157_6) | (show (Addr.add _ _).block ≠ _; rw [add_block]; exact hn157_6) | exact hn157_6) (.int .i64 ((rd_T30 l0 a2).f6))).trans hx157_0; skip; clear hn157_0; clear hn157_1; clear hn157_2; clear hn157_3; clear hn157_4; clear hn157_5; clear hn157_6; replace p157 := eq_true p157; replace q157 := eq_true q157))
          repeat (go_quiet (first | ((with_reducible refine gate_dst (N := 7) rfl ?_); refine box_event ?hg (N := 7) ?hd (cs := #[.bool false, .bool false, .int .i64 0, .int .i64 0, .int .i64 0, .int .i64 0, .int .i64 0]) (t := 30) ?hr ?_; (case hd => rfl); (case hg => rfl); (case hr => first | (go_simp; done) | (go_simp; rfl)); intro gb156 hg w54 hbox hb; have n0_ := Aside0.mk (below_step (by repeat (first | (with_reducible first | exact HB.out | apply below_alloc | apply pw_below_drewN | apply below_drew1) | exact HB.out)) hb); have n1_ := Aside0.mk (hbox); have n2_ := Aside0.mk ((by rw [hg]; exact (below_size (by repeat (first | (with_reducible first | exact HB.out | apply below_alloc | apply pw_below_drewN | apply below_drew1) | exact HB.out))) : w.heap.size ≤ gb156)); have n3_ := Aside0.mk ((by rw [hg]; exact (below_size (by repeat (first | (with_reducible first | exact HB.out | apply below_alloc | apply pw_below_drewN | apply below_drew1) | exact HB.out))) : w.heap.size ≤ gb156)); clear HB; have HB := n0_; have BK156 := n1_; have GW156 := n2_; have GE156 := n3_; clear n0_ n1_ n2_ n3_; clear hb hbox hg; have hcz55_0 : w54.cell? ⟨gb156, 0, none⟩ = some (.bool false) := (blk_cell BK156.out 0).trans rfl; have hcz55_1 : w54.cell? ⟨gb156, 1, none⟩ = some (.bool false) := (blk_cell BK156.out 1).trans rfl; have hcz55_2 : w54.cell? ⟨gb156, 2, none⟩ = some (.int .i64 0) := (blk_cell BK156.out 2).trans rfl; have hcz55_3 : w54.cell? ⟨gb156, 3, none⟩ = some (.int .i64 0) := (blk_cell BK156.out 3).trans rfl; have hcz55_4 : w54.cell? ⟨gb156, 4, none⟩ = some (.int .i64 0) := (blk_cell BK156.out 4).trans rfl; have hcz55_5 : w54.cell? ⟨gb156, 5, none⟩ = some (.int .i64 0) := (blk_cell BK156.out 5).trans rfl; have hcz55_6 : w54.cell? ⟨gb156, 6, none⟩ = some (.int .i64 0) := (blk_cell BK156.out 6).trans rfl; have hfz55_0 := blk_frozen BK156.out 0; have hfz55_1 := blk_frozen BK156.out 1; have hfz55_2 := blk_frozen BK156.out 2; have hfz55_3 := blk_frozen BK156.out 3; have hfz55_4 := blk_frozen BK156.out 4; have hfz55_5 := blk_frozen BK156.out 5; have hfz55_6 := blk_frozen BK156.out 6; have p157 : 0 ≤ (a2 : Int) := of_decide_eq_true (by first | (with_reducible assumption) | assumption); have q157 : a2 < (l1.length : Int) := of_decide_eq_true (by first | (with_reducible assumption) | assumption); obtain ⟨ad157, e157, hx157_0⟩ := Kd.at_int HR1.out a2 p157 q157; cases e157; have hn157_0 : ad157.block ≠ gb156 := Nat.ne_of_lt (Nat.lt_of_lt_of_le (by have := World.block_lt_of_cell? _ _ hx157_0; first | rwa [add_block] at this | exact this) GW156.out); have hn157_1 : ad157.block ≠ gb156 := Nat.ne_of_lt (Nat.lt_of_lt_of_le (by have := World.block_lt_of_cell? _ _ hx157_0; first | rwa [add_block] at this | exact this) GW156.out); have hn157_2 : ad157.block ≠ gb156 := Nat.ne_of_lt (Nat.lt_of_lt_of_le (by have := World.block_lt_of_cell? _ _ hx157_0; first | rwa [add_block] at this | exact this) GW156.out); have hn157_3 : ad157.block ≠ gb156 := Nat.ne_of_lt (Nat.lt_of_lt_of_le (by have := World.block_lt_of_cell? _ _ hx157_0; first | rwa [add_block] at this | exact this) GW156.out); have hn157_4 : ad157.block ≠ gb156 := Nat.ne_of_lt (Nat.lt_of_lt_of_le (by have := World.block_lt_of_cell? _ _ hx157_0; first | rwa [add_block] at this | exact this) GW156.out); have hn157_5 : ad157.block ≠ gb156 := Nat.ne_of_lt (Nat.lt_of_lt_of_le (by have := World.block_lt_of_cell? _ _ hx157_0; first | rwa [add_block] at this | exact this) GW156.out); have hn157_6 : ad157.block ≠ gb156 := Nat.ne_of_lt (Nat.lt_of_lt_of_le (by have := World.block_lt_of_cell? _ _ hx157_0; first | rwa [add_block] at this | exact this) GW156.out); replace hx157_0 := (HB.out.cell (World.block_lt_of_cell? w _ hx157_0)).trans hx157_0; replace hx157_0 := (cell_far (p := ⟨gb156, 0, none⟩) (by first | (rw [add_block]; exact hn157_0) | (show (Addr.add _ _).block ≠ _; rw [add_block]; exact hn157_0) | exact hn157_0) (.bool false)).trans hx157_0; replace hx157_0 := (cell_far (p := ⟨gb156, 1, none⟩) (by first | (rw [add_block]; exact hn157_1) | (show (Addr.add _ _).block ≠ _; rw [add_block]; exact hn157_1) | exact hn157_1) (.bool ((rd_T30 l0 a2).f1))).trans hx157_0; replace hx157_0 := (cell_far (p := ⟨gb156, 2, none⟩) (by first | (rw [add_block]; exact hn157_2) | (show (Addr.add _ _).block ≠ _; rw [add_block]; exact hn157_2) | exact hn157_2) (.int .i64 ((rd_T30 l0 a2).f2))).trans hx157_0; replace hx157_0 := (cell_far (p := ⟨gb156, 3, none⟩) (by first | (rw [add_block]; exact hn157_3) | (show (Addr.add _ _).block ≠ _; rw [add_block]; exact hn157_3) | exact hn157_3) (.int .i64 ((rd_T30 l0 a2).f3))).trans hx157_0; replace hx157_0 := (cell_far (p := ⟨gb156, 4, none⟩) (by first | (rw [add_block]; exact hn157_4) | (show (Addr.add _ _).block ≠ _; rw [add_block]; exact hn157_4) | exact hn157_4) (.int .i64 ((rd_T30 l0 a2).f4))).trans hx157_0; replace hx157_0 := (cell_far (p := ⟨gb156, 5, none⟩) (by first | (rw [add_block]; exact hn157_5) | (show (Addr.add _ _).block ≠ _; rw [add_block]; exact hn157_5) | exact hn157_5) (.int .i64 ((rd_T30 l0 a2).f5))).trans hx157_0; replace hx157_0 := (cell_far (p := ⟨gb156, 6, none⟩) (by first | (rw [add_block]; exact hn157_6) | (show (Addr.add _ _).block ≠ _; rw [add_block]; exact hn157_6) | exact hn157_6) (.int .i64 ((rd_T30 l0 a2).f6))).trans hx157_0; (try have hy157_0 := fun (n_ : Nat) => (show (((((((((w54.drewN n_).setCell ⟨gb156, 0, none⟩ (.bool false)).setCell ⟨gb156, 1, none⟩ (.bool ((rd_T30 l0 a2).f1))).setCell ⟨gb156, 2, none⟩ (.int .i64 ((rd_T30 l0 a2).f2))).setCell ⟨gb156, 3, none⟩ (.int .i64 ((rd_T30 l0 a2).f3))).setCell ⟨gb156, 4, none⟩ (.int .i64 ((rd_T30 l0 a2).f4))).setCell ⟨gb156, 5, none⟩ (.int .i64 ((rd_T30 l0 a2).f5))).setCell ⟨gb156, 6, none⟩ (.int .i64 ((rd_T30 l0 a2).f6)))).cell? _ = some _ from hx157_0)); clear hn157_0; clear hn157_1; clear hn157_2; clear hn157_3; clear hn157_4; clear hn157_5; clear hn157_6; replace p157 := eq_true p157; replace q157 := eq_true q157)); try go_wp2_with (first | ((with_reducible refine gate_dst (N := 7) rfl ?_); refine box_event ?hg (N := 7) ?hd (cs := #[.bool false, .bool false, .int .i64 0, .int .i64 0, .int .i64 0, .int .i64 0, .int .i64 0]) (t := 30) ?hr ?_; (case hd => rfl); (case hg => rfl); (case hr => first | (go_simp; done) | (go_simp; rfl)); intro gb156 hg w54 hbox hb; have n0_ := Aside0.mk (below_step (by repeat (first | (with_reducible first | exact HB.out | apply below_alloc | apply pw_below_drewN | apply below_drew1) | exact HB.out)) hb); have n1_ := Aside0.mk (hbox); have n2_ := Aside0.mk ((by rw [hg]; exact (below_size (by repeat (first | (with_reducible first | exact HB.out | apply below_alloc | apply pw_below_drewN | apply below_drew1) | exact HB.out))) : w.heap.size ≤ gb156)); have n3_ := Aside0.mk ((by rw [hg]; exact (below_size (by repeat (first | (with_reducible first | exact HB.out | apply below_alloc | apply pw_below_drewN | apply below_drew1) | exact HB.out))) : w.heap.size ≤ gb156)); clear HB; have HB := n0_; have BK156 := n1_; have GW156 := n2_; have GE156 := n3_; clear n0_ n1_ n2_ n3_; clear hb hbox hg; have hcz55_0 : w54.cell? ⟨gb156, 0, none⟩ = some (.bool false) := (blk_cell BK156.out 0).trans rfl; have hcz55_1 : w54.cell? ⟨gb156, 1, none⟩ = some (.bool false) := (blk_cell BK156.out 1).trans rfl; have hcz55_2 : w54.cell? ⟨gb156, 2, none⟩ = some (.int .i64 0) := (blk_cell BK156.out 2).trans rfl; have hcz55_3 : w54.cell? ⟨gb156, 3, none⟩ = some (.int .i64 0) := (blk_cell BK156.out 3).trans rfl; have hcz55_4 : w54.cell? ⟨gb156, 4, none⟩ = some (.int .i64 0) := (blk_cell BK156.out 4).trans rfl; have hcz55_5 : w54.cell? ⟨gb156, 5, none⟩ = some (.int .i64 0) := (blk_cell BK156.out 5).trans rfl; have hcz55_6 : w54.cell? ⟨gb156, 6, none⟩ = some (.int .i64 0) := (blk_cell BK156.out 6).trans rfl; have hfz55_0 := blk_frozen BK156.out 0; have hfz55_1 := blk_frozen BK156.out 1; have hfz55_2 := blk_frozen BK156.out 2; have hfz55_3 := blk_frozen BK156.out 3; have hfz55_4 := blk_frozen BK156.out 4; have hfz55_5 := blk_frozen BK156.out 5; have hfz55_6 := blk_frozen BK156.out 6; have p157 : 0 ≤ (a2 : Int) := of_decide_eq_true (by first | (with_reducible assumption) | assumption); have q157 : a2 < (l1.length : Int) := of_decide_eq_true (by first | (with_reducible assumption) | assumption); obtain ⟨ad157, e157, hx157_0⟩ := Kd.at_int HR1.out a2 p157 q157; cases e157; have hn157_0 : ad157.block ≠ gb156 := Nat.ne_of_lt (Nat.lt_of_lt_of_le (by have := World.block_lt_of_cell? _ _ hx157_0; first | rwa [add_block] at this | exact this) GW156.out); have hn157_1 : ad157.block ≠ gb156 := Nat.ne_of_lt (Nat.lt_of_lt_of_le (by have := World.block_lt_of_cell? _ _ hx157_0; first | rwa [add_block] at this | exact this) GW156.out); have hn157_2 : ad157.block ≠ gb156 := Nat.ne_of_lt (Nat.lt_of_lt_of_le (by have := World.block_lt_of_cell? _ _ hx157_0; first | rwa [add_block] at this | exact this) GW156.out); have hn157_3 : ad157.block ≠ gb156 := Nat.ne_of_lt (Nat.lt_of_lt_of_le (by have := World.block_lt_of_cell? _ _ hx157_0; first | rwa [add_block] at this | exact this) GW156.out); have hn157_4 : ad157.block ≠ gb156 := Nat.ne_of_lt (Nat.lt_of_lt_of_le (by have := World.block_lt_of_cell? _ _ hx157_0; first | rwa [add_block] at this | exact this) GW156.out); have hn157_5 : ad157.block ≠ gb156 := Nat.ne_of_lt (Nat.lt_of_lt_of_le (by have := World.block_lt_of_cell? _ _ hx157_0; first | rwa [add_block] at this | exact this) GW156.out); have hn157_6 : ad157.block ≠ gb156 := Nat.ne_of_lt (Nat.lt_of_lt_of_le (by have := World.block_lt_of_cell? _ _ hx157_0; first | rwa [add_block] at this | exact this) GW156.out); replace hx157_0 := (HB.out.cell (World.block_lt_of_cell? w _ hx157_0)).trans hx157_0; replace hx157_0 := (cell_far (p := ⟨gb156, 0, none⟩) (by first | (rw [add_block]; exact hn157_0) | (show (Addr.add _ _).block ≠ _; rw [add_block]; exact hn157_0) | exact hn157_0) (.bool false)).trans hx157_0; replace hx157_0 := (cell_far (p := ⟨gb156, 1, none⟩) (by first | (rw [add_block]; exact hn157_1) | (show (Addr.add _ _).block ≠ _; rw [add_block]; exact hn157_1) | exact hn157_1) (.bool ((rd_T30 l0 a2).f1))).trans hx157_0; replace hx157_0 := (cell_far (p := ⟨gb156, 2, none⟩) (by first | (rw [add_block]; exact hn157_2) | (show (Addr.add _ _).block ≠ _; rw [add_block]; exact hn157_2) | exact hn157_2) (.int .i64 ((rd_T30 l0 a2).f2))).trans hx157_0; replace hx157_0 := (cell_far (p := ⟨gb156, 3, none⟩) (by first | (rw [add_block]; exact hn157_3) | (show (Addr.add _ _).block ≠ _; rw [add_block]; exact hn157_3) | exact hn157_3) (.int .i64 ((rd_T30 l0 a2).f3))).trans hx157_0; replace hx157_0 := (cell_far (p := ⟨gb156, 4, none⟩) (by first | (rw [add_block]; exact hn157_4) | (show (Addr.add _ _).block ≠ _; rw [add_block]; exact hn157_4) | exact hn157_4) (.int .i64 ((rd_T30 l0 a2).f4))).trans hx157_0; replace hx157_0 := (cell_far (p := ⟨gb156, 5, none⟩) (by first | (rw [add_block]; exact hn157_5) | (show (Addr.add _ _).block ≠ _; rw [add_block]; exact hn157_5) | exact hn157_5) (.int .i64 ((rd_T30 l0 a2).f5))).trans hx157_0; replace hx157_0 := (cell_far (p := ⟨gb156, 6, none⟩) (by first | (rw [add_block]; exact hn157_6) | (show (Addr.add _ _).block ≠ _; rw [add_block]; exact hn157_6) | exact hn157_6) (.int .i64 ((rd_T30 l0 a2).f6))).trans hx157_0; (try have hy157_0 := fun (n_ : Nat) => (show (((((((((w54.drewN n_).setCell ⟨gb156, 0, none⟩ (.bool false)).setCell ⟨gb156, 1, none⟩ (.bool ((rd_T30 l0 a2).f1))).setCell ⟨gb156, 2, none⟩ (.int .i64 ((rd_T30 l0 a2).f2))).setCell ⟨gb156, 3, none⟩ (.int .i64 ((rd_T30 l0 a2).f3))).setCell ⟨gb156, 4, none⟩ (.int .i64 ((rd_T30 l0 a2).f4))).setCell ⟨gb156, 5, none⟩ (.int .i64 ((rd_T30 l0 a2).f5))).setCell ⟨gb156, 6, none⟩ (.int .i64 ((rd_T30 l0 a2).f6)))).cell? _ = some _ from hx157_0)); clear hn157_0; clear hn157_1; clear hn157_2; clear hn157_3; clear hn157_4; clear hn157_5; clear hn157_6; replace p157 := eq_true p157; replace q157 := eq_true q157)))
          go_ret
          exact ⟨by first | rfl | (simp [errW_none, errW_some] <;> rfl) | (simp [*, errW_none, errW_some] <;> rfl), by repeat (first | (with_reducible first | exact HB.out | apply below_alloc | apply pw_below_drewN | apply below_drew1 | refine below_set ?_ GE156.out) | exact HB.out)⟩
        · rw [if_neg c53] at H
          exact absurd H (by simp)
    · rw [if_neg c5] at H
      exact absurd H (by simp)
  · rw [if_neg c4] at H
    exact absurd H (by simp)

end Go.Proofs.Yteomcpdfbaglaaa.PLbtsGreatest
