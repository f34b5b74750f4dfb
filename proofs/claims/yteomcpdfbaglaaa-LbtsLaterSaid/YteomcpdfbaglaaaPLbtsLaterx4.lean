-- Written by gp.py (this project's driver over the kit's print) out of the translation and wip/given; Lean checks it.
import Derived.Test.YteomcpdfbaglaaaPLbtsLaterx0
import Derived.Test.YteomcpdfbaglaaaPLbtsLaterx1
import Derived.Test.YteomcpdfbaglaaaPLbtsLaterx3
namespace Go.Proofs.Yteomcpdfbaglaaa.PLbtsLater
open Go.RowKit Go.Proofs.YteomcpdfbaglaaaR Go.Proofs.YteomcpdfbaglaaaW.PrintWords Go.Proofs.YteomcpdfbaglaaaW.PrintLast Go.Proofs.YteomcpdfbaglaaaW.PrintMore
attribute [local go_sem] max2_int min2_int max_two min_two max_three min_three max_four min_four   -- for this text's walks alone
set_option linter.unusedVariables false
set_option linter.unusedSimpArgs false

/-! ### pacelineref18_output: function 20 -/
mutual
def pacelineref18_output.j0 : Nat → List (S50) → List Int → Int → Int → Bool → Bool → Bool → Int → Int → Int → Int → Int → Option (Int)
  | 0, _, _, _, _, _, _, _, _, _, _, _, _ => none
  | k + 1, x0, x1, x2, x8, x19, x135000, x135001, x135002, x135003, x135004, x135005, x135006 => if x19 = true then ((pacelineref18_time.f x135005).bind fun t136 => ((pacelineref01_Add.f (mx 1 (mn x135003 1048576)) t136).bind fun t137 => (some t137))) else (if x135004 = 2 then (pacelineref18_output.j1 k x0 x1 x2 x8 true x135000 x135001 x135002 x135003 x135004 x135005 x135006) else (pacelineref18_output.j1 k x0 x1 x2 x8 (x135004 == 3) x135000 x135001 x135002 x135003 x135004 x135005 x135006))
def pacelineref18_output.j1 : Nat → List (S50) → List Int → Int → Int → Bool → Bool → Bool → Int → Int → Int → Int → Int → Option (Int)
  | 0, _, _, _, _, _, _, _, _, _, _, _, _ => none
  | k + 1, x0, x1, x2, x8, x41, x135000, x135001, x135002, x135003, x135004, x135005, x135006 => if x41 = true then ((pacelineref18_time.f x135005).bind fun t138 => ((pacelineref18_time.f x135006).bind fun t139 => ((pacelineref18_others.f k x0 x1 x2).bind fun t140 => ((pacelineref01_Add.f (mx 1 (mn x135003 1048576)) (mx x8 (mn (mn t138 t139) t140))).bind fun t141 => (some t141))))) else ((pacelineref01_Add.f (mx 1 (mn x135003 1048576)) x8).bind fun t142 => (some t142))
end
def pacelineref18_output.f (k : Nat) (l0 : List (S50)) (l1 : List Int) (a2 : Int) : Option (Int) := if 0 ≤ a2 then (if a2 < (l0.length : Int) then (if ((rd_T50 l0 a2).f0 = true) then ((pacelineref18_time.f ((rd_T50 l0 a2).f2)).bind fun t135 => (if ((rd_T50 l0 a2).f4) = 1 then (pacelineref18_output.j0 k l0 l1 a2 t135 true ((rd_T50 l0 a2).f0) ((rd_T50 l0 a2).f1) ((rd_T50 l0 a2).f2) ((rd_T50 l0 a2).f3) ((rd_T50 l0 a2).f4) ((rd_T50 l0 a2).f5) ((rd_T50 l0 a2).f6)) else (if ((rd_T50 l0 a2).f4) = 2 then (pacelineref18_output.j0 k l0 l1 a2 t135 (!((rd_T50 l0 a2).f1)) ((rd_T50 l0 a2).f0) ((rd_T50 l0 a2).f1) ((rd_T50 l0 a2).f2) ((rd_T50 l0 a2).f3) ((rd_T50 l0 a2).f4) ((rd_T50 l0 a2).f5) ((rd_T50 l0 a2).f6)) else (if ((rd_T50 l0 a2).f4) = 3 then (pacelineref18_output.j0 k l0 l1 a2 t135 (!((rd_T50 l0 a2).f1)) ((rd_T50 l0 a2).f0) ((rd_T50 l0 a2).f1) ((rd_T50 l0 a2).f2) ((rd_T50 l0 a2).f3) ((rd_T50 l0 a2).f4) ((rd_T50 l0 a2).f5) ((rd_T50 l0 a2).f6)) else (pacelineref18_output.j0 k l0 l1 a2 t135 false ((rd_T50 l0 a2).f0) ((rd_T50 l0 a2).f1) ((rd_T50 l0 a2).f2) ((rd_T50 l0 a2).f3) ((rd_T50 l0 a2).f4) ((rd_T50 l0 a2).f5) ((rd_T50 l0 a2).f6)))))) else (some 1125899906842624)) else (none)) else (none)
theorem pacelineref18_output.mono_l : ∀ k, (∀ y0 y1 y2 y3 y4 y5 y6 y7 y8 y9 y10 y11, LeO (pacelineref18_output.j0 k y0 y1 y2 y3 y4 y5 y6 y7 y8 y9 y10 y11) (pacelineref18_output.j0 (k + 1) y0 y1 y2 y3 y4 y5 y6 y7 y8 y9 y10 y11)) ∧ (∀ y0 y1 y2 y3 y4 y5 y6 y7 y8 y9 y10 y11, LeO (pacelineref18_output.j1 k y0 y1 y2 y3 y4 y5 y6 y7 y8 y9 y10 y11) (pacelineref18_output.j1 (k + 1) y0 y1 y2 y3 y4 y5 y6 y7 y8 y9 y10 y11))
  | 0 => ⟨fun _ _ _ _ _ _ _ _ _ _ _ _ r h => by simp [pacelineref18_output.j0] at h, fun _ _ _ _ _ _ _ _ _ _ _ _ r h => by simp [pacelineref18_output.j1] at h⟩
  | k + 1 => by
    obtain ⟨ih0, ih1⟩ := pacelineref18_output.mono_l k
    refine ⟨?_, ?_⟩
    · intro y0 y1 y2 y3 y4 y5 y6 y7 y8 y9 y10 y11
      unfold pacelineref18_output.j0
      repeat' first
      | (with_reducible exact ih0 _ _ _ _ _ _ _ _ _ _ _ _)
      | (with_reducible exact ih1 _ _ _ _ _ _ _ _ _ _ _ _)
      | (with_reducible exact pacelineref18_others.mono _ _ _ _)
      | (with_reducible exact LeO.refl _)
      | (with_reducible exact LeO.none _)
      | (with_reducible refine LeO.ite ?_ ?_)
      | (with_reducible refine LeO.bind ?_ (fun _ => ?_))
      | exact ih0 _ _ _ _ _ _ _ _ _ _ _ _
      | exact ih1 _ _ _ _ _ _ _ _ _ _ _ _
      | exact pacelineref18_others.mono _ _ _ _
      | exact LeO.none _
      | refine LeO.ite ?_ ?_
      | refine LeO.bind ?_ (fun _ => ?_)
    · intro y0 y1 y2 y3 y4 y5 y6 y7 y8 y9 y10 y11
      unfold pacelineref18_output.j1
      repeat' first
      | (with_reducible exact ih0 _ _ _ _ _ _ _ _ _ _ _ _)
      | (with_reducible exact ih1 _ _ _ _ _ _ _ _ _ _ _ _)
      | (with_reducible exact pacelineref18_others.mono _ _ _ _)
      | (with_reducible exact LeO.refl _)
      | (with_reducible exact LeO.none _)
      | (with_reducible refine LeO.ite ?_ ?_)
      | (with_reducible refine LeO.bind ?_ (fun _ => ?_))
      | exact ih0 _ _ _ _ _ _ _ _ _ _ _ _
      | exact ih1 _ _ _ _ _ _ _ _ _ _ _ _
      | exact pacelineref18_others.mono _ _ _ _
      | exact LeO.none _
      | refine LeO.ite ?_ ?_
      | refine LeO.bind ?_ (fun _ => ?_)
theorem pacelineref18_output.mono : ∀ a0 a1 a2 k, LeO (pacelineref18_output.f k a0 a1 a2) (pacelineref18_output.f (k + 1) a0 a1 a2) := by
  intro a0 a1 a2 k
  obtain ⟨ih0, ih1⟩ := pacelineref18_output.mono_l k
  unfold pacelineref18_output.f
  repeat' first
      | (with_reducible exact ih0 _ _ _ _ _ _ _ _ _ _ _ _)
      | (with_reducible exact ih1 _ _ _ _ _ _ _ _ _ _ _ _)
      | (with_reducible exact pacelineref18_others.mono _ _ _ _)
      | (with_reducible exact LeO.refl _)
      | (with_reducible exact LeO.none _)
      | (with_reducible refine LeO.ite ?_ ?_)
      | (with_reducible refine LeO.bind ?_ (fun _ => ?_))
      | exact ih0 _ _ _ _ _ _ _ _ _ _ _ _
      | exact ih1 _ _ _ _ _ _ _ _ _ _ _ _
      | exact pacelineref18_others.mono _ _ _ _
      | exact LeO.none _
      | refine LeO.ite ?_ ?_
      | refine LeO.bind ?_ (fun _ => ?_)
def pacelineref18_output.T8 : Bool × List (List Nat × List Nat) := (true, [([], []), ([], []), ([1], [1]), ([2], [2]), ([], []), ([4], [4]), ([5, 3], [5]), ([], []), ([], []), ([], []), ([7, 8, 9, 6], [7, 8, 9]), ([3, 6, 10], [3, 6, 10]), ([0, 11], [0, 11]), ([12, 10, 0, 1, 2, 3, 4, 5, 6, 7, 8, 9, 10, 11, 12], [0, 12])])
def pacelineref18_output.B8 : List Nat := [0, 0, 2, 6, 0, 16, 62, 0, 0, 0, 1022, 2046, 4095, 8191]
theorem pacelineref18_output.tab8 : rtab .any (opsOf Try.f20 8) = pacelineref18_output.T8 := by kernel_rfl
theorem pacelineref18_output.bits8 : waitsOk pacelineref18_output.T8.2 pacelineref18_output.B8 = true := by kernel_rfl
set_option maxHeartbeats 8000000 in
set_option maxRecDepth 100000 in
theorem pacelineref18_output.calls (k : Nat) (A0 : Option Addr) (c0 : Nat) (l0 : List (S50)) (A1 : Option Addr) (c1 : Nat) (l1 : List Int) (a2 : Int) (r : Int) (w : World) (hr0 : Kd.C k50 w A0 l0.length l0) (hc0 : l0.length ≤ c0) (hr1 : Kd.C (Kd.int .i64) w A1 l1.length l1) (hc1 : l1.length ≤ c1) (h : pacelineref18_output.f k l0 l1 a2 = some r) :
    Calls Try.prog 20 #[.slice A0 l0.length c0, .slice A1 l1.length c1, .int .i64 a2] w fun e w' => e = .returned (.int .i64 r) ∧ Below w.heap.size w w' := by
  have hu50 := Try.underlying50
  have HR0 := Aside0.mk hr0
  have HC0 := Aside0.mk hc0
  clear hr0 hc0
  have HR1 := Aside0.mk hr1
  have HC1 := Aside0.mk hc1
  clear hr1 hc1
  have HB := Aside0.mk (Below.refl w.heap.size w)
  have H : (if 0 ≤ a2 then (if a2 < (l0.length : Int) then (if ((rd_T50 l0 a2).f0 = true) then ((pacelineref18_time.f ((rd_T50 l0 a2).f2)).bind fun t135 => (if ((rd_T50 l0 a2).f4) = 1 then (pacelineref18_output.j0 k l0 l1 a2 t135 true ((rd_T50 l0 a2).f0) ((rd_T50 l0 a2).f1) ((rd_T50 l0 a2).f2) ((rd_T50 l0 a2).f3) ((rd_T50 l0 a2).f4) ((rd_T50 l0 a2).f5) ((rd_T50 l0 a2).f6)) else (if ((rd_T50 l0 a2).f4) = 2 then (pacelineref18_output.j0 k l0 l1 a2 t135 (!((rd_T50 l0 a2).f1)) ((rd_T50 l0 a2).f0) ((rd_T50 l0 a2).f1) ((rd_T50 l0 a2).f2) ((rd_T50 l0 a2).f3) ((rd_T50 l0 a2).f4) ((rd_T50 l0 a2).f5) ((rd_T50 l0 a2).f6)) else (if ((rd_T50 l0 a2).f4) = 3 then (pacelineref18_output.j0 k l0 l1 a2 t135 (!((rd_T50 l0 a2).f1)) ((rd_T50 l0 a2).f0) ((rd_T50 l0 a2).f1) ((rd_T50 l0 a2).f2) ((rd_T50 l0 a2).f3) ((rd_T50 l0 a2).f4) ((rd_T50 l0 a2).f5) ((rd_T50 l0 a2).f6)) else (pacelineref18_output.j0 k l0 l1 a2 t135 false ((rd_T50 l0 a2).f0) ((rd_T50 l0 a2).f1) ((rd_T50 l0 a2).f2) ((rd_T50 l0 a2).f3) ((rd_T50 l0 a2).f4) ((rd_T50 l0 a2).f5) ((rd_T50 l0 a2).f6)))))) else (some 1125899906842624)) else (none)) else (none)) = some r := h
  clear h
  by_cases c4 : 0 ≤ a2
  · rw [if_pos c4] at H
    have c4b0 : decide (0 ≤ a2) = true := decide_eq_true c4
    clear c4
    by_cases c5 : a2 < (l0.length : Int)
    · rw [if_pos c5] at H
      have c5b0 : decide (a2 < (l0.length : Int)) = true := decide_eq_true c5
      clear c5
      obtain ⟨bq6, hbq6⟩ : ∃ b_ : Bool, b_ = ((rd_T50 l0 a2).f0) := ⟨_, rfl⟩
      replace H : (if (bq6 = true) then ((pacelineref18_time.f ((rd_T50 l0 a2).f2)).bind fun t135 => (if ((rd_T50 l0 a2).f4) = 1 then (pacelineref18_output.j0 k l0 l1 a2 t135 true bq6 ((rd_T50 l0 a2).f1) ((rd_T50 l0 a2).f2) ((rd_T50 l0 a2).f3) ((rd_T50 l0 a2).f4) ((rd_T50 l0 a2).f5) ((rd_T50 l0 a2).f6)) else (if ((rd_T50 l0 a2).f4) = 2 then (pacelineref18_output.j0 k l0 l1 a2 t135 (!((rd_T50 l0 a2).f1)) bq6 ((rd_T50 l0 a2).f1) ((rd_T50 l0 a2).f2) ((rd_T50 l0 a2).f3) ((rd_T50 l0 a2).f4) ((rd_T50 l0 a2).f5) ((rd_T50 l0 a2).f6)) else (if ((rd_T50 l0 a2).f4) = 3 then (pacelineref18_output.j0 k l0 l1 a2 t135 (!((rd_T50 l0 a2).f1)) bq6 ((rd_T50 l0 a2).f1) ((rd_T50 l0 a2).f2) ((rd_T50 l0 a2).f3) ((rd_T50 l0 a2).f4) ((rd_T50 l0 a2).f5) ((rd_T50 l0 a2).f6)) else (pacelineref18_output.j0 k l0 l1 a2 t135 false bq6 ((rd_T50 l0 a2).f1) ((rd_T50 l0 a2).f2) ((rd_T50 l0 a2).f3) ((rd_T50 l0 a2).f4) ((rd_T50 l0 a2).f5) ((rd_T50 l0 a2).f6)))))) else (some 1125899906842624)) = some r := by rw [← hbq6] at H; exact H
      have Nbq6 := Aside0.mk hbq6
      clear hbq6
      by_cases c7 : (bq6 = true)
      · subst c7
        have H1 : ((pacelineref18_time.f ((rd_T50 l0 a2).f2)).bind fun t135 => (if ((rd_T50 l0 a2).f4) = 1 then (pacelineref18_output.j0 k l0 l1 a2 t135 true true ((rd_T50 l0 a2).f1) ((rd_T50 l0 a2).f2) ((rd_T50 l0 a2).f3) ((rd_T50 l0 a2).f4) ((rd_T50 l0 a2).f5) ((rd_T50 l0 a2).f6)) else (if ((rd_T50 l0 a2).f4) = 2 then (pacelineref18_output.j0 k l0 l1 a2 t135 (!((rd_T50 l0 a2).f1)) true ((rd_T50 l0 a2).f1) ((rd_T50 l0 a2).f2) ((rd_T50 l0 a2).f3) ((rd_T50 l0 a2).f4) ((rd_T50 l0 a2).f5) ((rd_T50 l0 a2).f6)) else (if ((rd_T50 l0 a2).f4) = 3 then (pacelineref18_output.j0 k l0 l1 a2 t135 (!((rd_T50 l0 a2).f1)) true ((rd_T50 l0 a2).f1) ((rd_T50 l0 a2).f2) ((rd_T50 l0 a2).f3) ((rd_T50 l0 a2).f4) ((rd_T50 l0 a2).f5) ((rd_T50 l0 a2).f6)) else (pacelineref18_output.j0 k l0 l1 a2 t135 false true ((rd_T50 l0 a2).f1) ((rd_T50 l0 a2).f2) ((rd_T50 l0 a2).f3) ((rd_T50 l0 a2).f4) ((rd_T50 l0 a2).f5) ((rd_T50 l0 a2).f6)))))) = some r := by rw [if_pos rfl] at H; exact H
        clear H
        have H := H1
        clear H1
        replace H := Option.bind_eq_some_iff.mp H
        obtain ⟨t135, A80, H⟩ := H
        replace H : (if ((rd_T50 l0 a2).f4) = 1 then (pacelineref18_output.j0 k l0 l1 a2 t135 true true ((rd_T50 l0 a2).f1) ((rd_T50 l0 a2).f2) ((rd_T50 l0 a2).f3) ((rd_T50 l0 a2).f4) ((rd_T50 l0 a2).f5) ((rd_T50 l0 a2).f6)) else (if ((rd_T50 l0 a2).f4) = 2 then (pacelineref18_output.j0 k l0 l1 a2 t135 (!((rd_T50 l0 a2).f1)) true ((rd_T50 l0 a2).f1) ((rd_T50 l0 a2).f2) ((rd_T50 l0 a2).f3) ((rd_T50 l0 a2).f4) ((rd_T50 l0 a2).f5) ((rd_T50 l0 a2).f6)) else (if ((rd_T50 l0 a2).f4) = 3 then (pacelineref18_output.j0 k l0 l1 a2 t135 (!((rd_T50 l0 a2).f1)) true ((rd_T50 l0 a2).f1) ((rd_T50 l0 a2).f2) ((rd_T50 l0 a2).f3) ((rd_T50 l0 a2).f4) ((rd_T50 l0 a2).f5) ((rd_T50 l0 a2).f6)) else (pacelineref18_output.j0 k l0 l1 a2 t135 false true ((rd_T50 l0 a2).f1) ((rd_T50 l0 a2).f2) ((rd_T50 l0 a2).f3) ((rd_T50 l0 a2).f4) ((rd_T50 l0 a2).f5) ((rd_T50 l0 a2).f6))))) = some r := H
        have A8 := Aside0.mk A80
        clear A80
        have HC9 := Aside0.mk H
        clear H
        have p133 : 0 ≤ (a2 : Int) := of_decide_eq_true (by first | (with_reducible assumption) | assumption)
        have q133 : a2 < (l0.length : Int) := of_decide_eq_true (by first | (with_reducible assumption) | assumption)
        obtain ⟨ad133, e133, hx133_0, hx133_1, hx133_2, hx133_3, hx133_4, hx133_5, hx133_6⟩ := at_T50 HR0.out a2 p133 q133
        (try rw [← Nbq6.out] at hx133_0)
        (try rw [← Nbq6.out] at hx133_1)
        cases e133
        replace p133 := eq_true p133
        replace q133 := eq_true q133
        go_enter Try.func20, Try.ntmps20
        go_upto_region 5 with (first | ((with_reducible refine gate_dst (N := 7) rfl ?_); refine box_event ?hg (N := 7) ?hd (cs := #[.bool false, .bool false, .int .i64 0, .int .i64 0, .int .i64 0, .int .i64 0, .int .i64 0]) (t := 50) ?hr ?_; (case hd => rfl); (case hg => rfl); (case hr => first | (go_simp; done) | (go_simp; rfl)); intro gb134 hg w10 hbox hb; have n0_ := Aside0.mk (below_step (by repeat (first | (with_reducible first | exact HB.out | apply below_alloc | apply pw_below_drewN | apply below_drew1) | exact HB.out)) hb); have n1_ := Aside0.mk (hbox); have n2_ := Aside0.mk ((by rw [hg]; exact (below_size (by repeat (first | (with_reducible first | exact HB.out | apply below_alloc | apply pw_below_drewN | apply below_drew1) | exact HB.out))) : w.heap.size ≤ gb134)); have n3_ := Aside0.mk ((by rw [hg]; exact (below_size (by repeat (first | (with_reducible first | exact HB.out | apply below_alloc | apply pw_below_drewN | apply below_drew1) | exact HB.out))) : w.heap.size ≤ gb134)); clear HB; have HB := n0_; have BK134 := n1_; have GW134 := n2_; have GE134 := n3_; clear n0_ n1_ n2_ n3_; clear hb hbox hg; have hcz11_0 : w10.cell? ⟨gb134, 0, none⟩ = some (.bool false) := (blk_cell BK134.out 0).trans rfl; have hcz11_1 : w10.cell? ⟨gb134, 1, none⟩ = some (.bool false) := (blk_cell BK134.out 1).trans rfl; have hcz11_2 : w10.cell? ⟨gb134, 2, none⟩ = some (.int .i64 0) := (blk_cell BK134.out 2).trans rfl; have hcz11_3 : w10.cell? ⟨gb134, 3, none⟩ = some (.int .i64 0) := (blk_cell BK134.out 3).trans rfl; have hcz11_4 : w10.cell? ⟨gb134, 4, none⟩ = some (.int .i64 0) := (blk_cell BK134.out 4).trans rfl; have hcz11_5 : w10.cell? ⟨gb134, 5, none⟩ = some (.int .i64 0) := (blk_cell BK134.out 5).trans rfl; have hcz11_6 : w10.cell? ⟨gb134, 6, none⟩ = some (.int .i64 0) := (blk_cell BK134.out 6).trans rfl; have hfz11_0 := blk_frozen BK134.out 0; have hfz11_1 := blk_frozen BK134.out 1; have hfz11_2 := blk_frozen BK134.out 2; have hfz11_3 := blk_frozen BK134.out 3; have hfz11_4 := blk_frozen BK134.out 4; have hfz11_5 := blk_frozen BK134.out 5; have hfz11_6 := blk_frozen BK134.out 6) | ((with_reducible refine gate_callee (f := 24) rfl ?_); refine goesL_ (some 18) rfl rfl Try.func24 (by kernel_rfl) rfl #[.int .i64 ((rd_T50 l0 a2).f2)] rfl (by (try simp only [List.map_toArray, List.map_cons, List.map_nil]); first | done | rfl | (simp only [List.length_drop, List.length_take]; rfl)) ?_; (with_reducible refine (pacelineref18_time.calls ((rd_T50 l0 a2).f2) t135 _ A8.out).mono ?_); rintro e w' ⟨rfl, ⟨nd, rfl⟩⟩; refine ⟨_, rfl, ?_⟩))
        (try simp only [Act.put, List.setIfInBounds_toArray, List.set_cons_zero, List.set_cons_succ])
        go_cut [19] (fun v19 wc => ∃ (kq : Nat) (x19_8 : Bool), v19 = .bool x19_8 ∧ Aside0 (pacelineref18_output.j0 kq l0 l1 a2 t135 x19_8 true ((rd_T50 l0 a2).f1) ((rd_T50 l0 a2).f2) ((rd_T50 l0 a2).f3) ((rd_T50 l0 a2).f4) ((rd_T50 l0 a2).f5) ((rd_T50 l0 a2).f6) = some r) ∧ Aside0 (kq ≤ k) ∧ Aside0 (wc.heap[gb134]? = some (.cells #[.bool true, .bool ((rd_T50 l0 a2).f1), .int .i64 ((rd_T50 l0 a2).f2), .int .i64 ((rd_T50 l0 a2).f3), .int .i64 ((rd_T50 l0 a2).f4), .int .i64 ((rd_T50 l0 a2).f5), .int .i64 ((rd_T50 l0 a2).f6)] 50 (0, 0))) ∧ Aside0 (Below w.heap.size w wc))
        case first =>
          have H := HC9.out
          clear HC9
          by_cases c12 : ((rd_T50 l0 a2).f4) = 1
          · rw [if_pos c12] at H
            have c12b0 : (((rd_T50 l0 a2).f4) == 1) = true := beq_iff_eq.mpr c12
            have c12b1 : (((rd_T50 l0 a2).f4) != 1) = false := bne_eq_false_iff_eq.mpr c12
            clear c12
            (first | rw [c12b0] | (simp only [i64_w, i32_w]; rw [c12b0]) | skip)
            have H' := Aside0.mk H
            clear H
            have hcz13_0 : w10.cell? ⟨gb134, 0, none⟩ = some (.bool false) := (blk_cell BK134.out 0).trans rfl
            have hcz13_1 : w10.cell? ⟨gb134, 1, none⟩ = some (.bool false) := (blk_cell BK134.out 1).trans rfl
            have hcz13_2 : w10.cell? ⟨gb134, 2, none⟩ = some (.int .i64 0) := (blk_cell BK134.out 2).trans rfl
            have hcz13_3 : w10.cell? ⟨gb134, 3, none⟩ = some (.int .i64 0) := (blk_cell BK134.out 3).trans rfl
            have hcz13_4 : w10.cell? ⟨gb134, 4, none⟩ = some (.int .i64 0) := (blk_cell BK134.out 4).trans rfl
            have hcz13_5 : w10.cell? ⟨gb134, 5, none⟩ = some (.int .i64 0) := (blk_cell BK134.out 5).trans rfl
            have hcz13_6 : w10.cell? ⟨gb134, 6, none⟩ = some (.int .i64 0) := (blk_cell BK134.out 6).trans rfl
            have hfz13_0 := blk_frozen BK134.out 0
            have hfz13_1 := blk_frozen BK134.out 1
            have hfz13_2 := blk_frozen BK134.out 2
            have hfz13_3 := blk_frozen BK134.out 3
            have hfz13_4 := blk_frozen BK134.out 4
            have hfz13_5 := blk_frozen BK134.out 5
            have hfz13_6 := blk_frozen BK134.out 6
            go_wp2
            go_meet
            case rel => exact ⟨_, (true), (by first | rfl | (simp; done) | (simp [*]; done)), H', ⟨by first | omega | exact Nat.le_refl _⟩, ⟨by (with_reducible repeat (first | refine blk_drewN ?_ _ | refine blk_drew ?_ | refine blk_alloc ?_ _)); refine blk_put (cs := #[.bool true, .bool ((rd_T50 l0 a2).f1), .int .i64 ((rd_T50 l0 a2).f2), .int .i64 ((rd_T50 l0 a2).f3), .int .i64 ((rd_T50 l0 a2).f4), .int .i64 ((rd_T50 l0 a2).f5), .int .i64 0]) ?_ 6 _ rfl; (with_reducible repeat (first | refine blk_drewN ?_ _ | refine blk_drew ?_ | refine blk_alloc ?_ _)); refine blk_put (cs := #[.bool true, .bool ((rd_T50 l0 a2).f1), .int .i64 ((rd_T50 l0 a2).f2), .int .i64 ((rd_T50 l0 a2).f3), .int .i64 ((rd_T50 l0 a2).f4), .int .i64 0, .int .i64 0]) ?_ 5 _ rfl; (with_reducible repeat (first | refine blk_drewN ?_ _ | refine blk_drew ?_ | refine blk_alloc ?_ _)); refine blk_put (cs := #[.bool true, .bool ((rd_T50 l0 a2).f1), .int .i64 ((rd_T50 l0 a2).f2), .int .i64 ((rd_T50 l0 a2).f3), .int .i64 0, .int .i64 0, .int .i64 0]) ?_ 4 _ rfl; (with_reducible repeat (first | refine blk_drewN ?_ _ | refine blk_drew ?_ | refine blk_alloc ?_ _)); refine blk_put (cs := #[.bool true, .bool ((rd_T50 l0 a2).f1), .int .i64 ((rd_T50 l0 a2).f2), .int .i64 0, .int .i64 0, .int .i64 0, .int .i64 0]) ?_ 3 _ rfl; (with_reducible repeat (first | refine blk_drewN ?_ _ | refine blk_drew ?_ | refine blk_alloc ?_ _)); refine blk_put (cs := #[.bool true, .bool ((rd_T50 l0 a2).f1), .int .i64 0, .int .i64 0, .int .i64 0, .int .i64 0, .int .i64 0]) ?_ 2 _ rfl; (with_reducible repeat (first | refine blk_drewN ?_ _ | refine blk_drew ?_ | refine blk_alloc ?_ _)); refine blk_put (cs := #[.bool true, .bool false, .int .i64 0, .int .i64 0, .int .i64 0, .int .i64 0, .int .i64 0]) ?_ 1 _ rfl; (with_reducible repeat (first | refine blk_drewN ?_ _ | refine blk_drew ?_ | refine blk_alloc ?_ _)); refine blk_put (cs := #[.bool false, .bool false, .int .i64 0, .int .i64 0, .int .i64 0, .int .i64 0, .int .i64 0]) ?_ 0 _ rfl; (with_reducible repeat (first | refine blk_drewN ?_ _ | refine blk_drew ?_ | refine blk_alloc ?_ _)); exact BK134.out⟩, ⟨by repeat (first | (with_reducible first | exact HB.out | apply below_alloc | apply pw_below_drewN | apply below_drew1 | refine below_set ?_ GE134.out) | exact HB.out)⟩⟩
          · rw [if_neg c12] at H
            have c12b0 : (((rd_T50 l0 a2).f4) == 1) = false := beq_eq_false_iff_ne.mpr c12
            have c12b1 : (((rd_T50 l0 a2).f4) != 1) = true := bne_iff_ne.mpr c12
            (first | rw [c12b0] | (simp only [i64_w, i32_w]; rw [c12b0]) | skip)
            by_cases c14 : ((rd_T50 l0 a2).f4) = 2
            · rw [if_pos c14] at H
              have c14b0 : (((rd_T50 l0 a2).f4) == 2) = true := beq_iff_eq.mpr c14
              have c14b1 : (((rd_T50 l0 a2).f4) != 2) = false := bne_eq_false_iff_eq.mpr c14
              clear c14
              have H' := Aside0.mk H
              clear H
              have hcz15_0 : w10.cell? ⟨gb134, 0, none⟩ = some (.bool false) := (blk_cell BK134.out 0).trans rfl
              have hcz15_1 : w10.cell? ⟨gb134, 1, none⟩ = some (.bool false) := (blk_cell BK134.out 1).trans rfl
              have hcz15_2 : w10.cell? ⟨gb134, 2, none⟩ = some (.int .i64 0) := (blk_cell BK134.out 2).trans rfl
              have hcz15_3 : w10.cell? ⟨gb134, 3, none⟩ = some (.int .i64 0) := (blk_cell BK134.out 3).trans rfl
              have hcz15_4 : w10.cell? ⟨gb134, 4, none⟩ = some (.int .i64 0) := (blk_cell BK134.out 4).trans rfl
              have hcz15_5 : w10.cell? ⟨gb134, 5, none⟩ = some (.int .i64 0) := (blk_cell BK134.out 5).trans rfl
              have hcz15_6 : w10.cell? ⟨gb134, 6, none⟩ = some (.int .i64 0) := (blk_cell BK134.out 6).trans rfl
              have hfz15_0 := blk_frozen BK134.out 0
              have hfz15_1 := blk_frozen BK134.out 1
              have hfz15_2 := blk_frozen BK134.out 2
              have hfz15_3 := blk_frozen BK134.out 3
              have hfz15_4 := blk_frozen BK134.out 4
              have hfz15_5 := blk_frozen BK134.out 5
              have hfz15_6 := blk_frozen BK134.out 6
              go_wp2
              go_meet
              case rel => exact ⟨_, (!((rd_T50 l0 a2).f1)), (by first | rfl | (simp; done) | (simp [*]; done)), H', ⟨by first | omega | exact Nat.le_refl _⟩, ⟨by (with_reducible repeat (first | refine blk_drewN ?_ _ | refine blk_drew ?_ | refine blk_alloc ?_ _)); refine blk_put (cs := #[.bool true, .bool ((rd_T50 l0 a2).f1), .int .i64 ((rd_T50 l0 a2).f2), .int .i64 ((rd_T50 l0 a2).f3), .int .i64 ((rd_T50 l0 a2).f4), .int .i64 ((rd_T50 l0 a2).f5), .int .i64 0]) ?_ 6 _ rfl; (with_reducible repeat (first | refine blk_drewN ?_ _ | refine blk_drew ?_ | refine blk_alloc ?_ _)); refine blk_put (cs := #[.bool true, .bool ((rd_T50 l0 a2).f1), .int .i64 ((rd_T50 l0 a2).f2), .int .i64 ((rd_T50 l0 a2).f3), .int .i64 ((rd_T50 l0 a2).f4), .int .i64 0, .int .i64 0]) ?_ 5 _ rfl; (with_reducible repeat (first | refine blk_drewN ?_ _ | refine blk_drew ?_ | refine blk_alloc ?_ _)); refine blk_put (cs := #[.bool true, .bool ((rd_T50 l0 a2).f1), .int .i64 ((rd_T50 l0 a2).f2), .int .i64 ((rd_T50 l0 a2).f3), .int .i64 0, .int .i64 0, .int .i64 0]) ?_ 4 _ rfl; (with_reducible repeat (first | refine blk_drewN ?_ _ | refine blk_drew ?_ | refine blk_alloc ?_ _)); refine blk_put (cs := #[.bool true, .bool ((rd_T50 l0 a2).f1), .int .i64 ((rd_T50 l0 a2).f2), .int .i64 0, .int .i64 0, .int .i64 0, .int .i64 0]) ?_ 3 _ rfl; (with_reducible repeat (first | refine blk_drewN ?_ _ | refine blk_drew ?_ | refine blk_alloc ?_ _)); refine blk_put (cs := #[.bool true, .bool ((rd_T50 l0 a2).f1), .int .i64 0, .int .i64 0, .int .i64 0, .int .i64 0, .int .i64 0]) ?_ 2 _ rfl; (with_reducible repeat (first | refine blk_drewN ?_ _ | refine blk_drew ?_ | refine blk_alloc ?_ _)); refine blk_put (cs := #[.bool true, .bool false, .int .i64 0, .int .i64 0, .int .i64 0, .int .i64 0, .int .i64 0]) ?_ 1 _ rfl; (with_reducible repeat (first | refine blk_drewN ?_ _ | refine blk_drew ?_ | refine blk_alloc ?_ _)); refine blk_put (cs := #[.bool false, .bool false, .int .i64 0, .int .i64 0, .int .i64 0, .int .i64 0, .int .i64 0]) ?_ 0 _ rfl; (with_reducible repeat (first | refine blk_drewN ?_ _ | refine blk_drew ?_ | refine blk_alloc ?_ _)); exact BK134.out⟩, ⟨by repeat (first | (with_reducible first | exact HB.out | apply below_alloc | apply pw_below_drewN | apply below_drew1 | refine below_set ?_ GE134.out) | exact HB.out)⟩⟩
            · rw [if_neg c14] at H
              have c14b0 : (((rd_T50 l0 a2).f4) == 2) = false := beq_eq_false_iff_ne.mpr c14
              have c14b1 : (((rd_T50 l0 a2).f4) != 2) = true := bne_iff_ne.mpr c14
              by_cases c16 : ((rd_T50 l0 a2).f4) = 3
              · rw [if_pos c16] at H
                have c16b0 : (((rd_T50 l0 a2).f4) == 3) = true := beq_iff_eq.mpr c16
                have c16b1 : (((rd_T50 l0 a2).f4) != 3) = false := bne_eq_false_iff_eq.mpr c16
                clear c16
                have H' := Aside0.mk H
                clear H
                have hcz17_0 : w10.cell? ⟨gb134, 0, none⟩ = some (.bool false) := (blk_cell BK134.out 0).trans rfl
                have hcz17_1 : w10.cell? ⟨gb134, 1, none⟩ = some (.bool false) := (blk_cell BK134.out 1).trans rfl
                have hcz17_2 : w10.cell? ⟨gb134, 2, none⟩ = some (.int .i64 0) := (blk_cell BK134.out 2).trans rfl
                have hcz17_3 : w10.cell? ⟨gb134, 3, none⟩ = some (.int .i64 0) := (blk_cell BK134.out 3).trans rfl
                have hcz17_4 : w10.cell? ⟨gb134, 4, none⟩ = some (.int .i64 0) := (blk_cell BK134.out 4).trans rfl
                have hcz17_5 : w10.cell? ⟨gb134, 5, none⟩ = some (.int .i64 0) := (blk_cell BK134.out 5).trans rfl
                have hcz17_6 : w10.cell? ⟨gb134, 6, none⟩ = some (.int .i64 0) := (blk_cell BK134.out 6).trans rfl
                have hfz17_0 := blk_frozen BK134.out 0
                have hfz17_1 := blk_frozen BK134.out 1
                have hfz17_2 := blk_frozen BK134.out 2
                have hfz17_3 := blk_frozen BK134.out 3
                have hfz17_4 := blk_frozen BK134.out 4
                have hfz17_5 := blk_frozen BK134.out 5
                have hfz17_6 := blk_frozen BK134.out 6
                go_wp2
                go_meet
                case rel => exact ⟨_, (!((rd_T50 l0 a2).f1)), (by first | rfl | (simp; done) | (simp [*]; done)), H', ⟨by first | omega | exact Nat.le_refl _⟩, ⟨by (with_reducible repeat (first | refine blk_drewN ?_ _ | refine blk_drew ?_ | refine blk_alloc ?_ _)); refine blk_put (cs := #[.bool true, .bool ((rd_T50 l0 a2).f1), .int .i64 ((rd_T50 l0 a2).f2), .int .i64 ((rd_T50 l0 a2).f3), .int .i64 ((rd_T50 l0 a2).f4), .int .i64 ((rd_T50 l0 a2).f5), .int .i64 0]) ?_ 6 _ rfl; (with_reducible repeat (first | refine blk_drewN ?_ _ | refine blk_drew ?_ | refine blk_alloc ?_ _)); refine blk_put (cs := #[.bool true, .bool ((rd_T50 l0 a2).f1), .int .i64 ((rd_T50 l0 a2).f2), .int .i64 ((rd_T50 l0 a2).f3), .int .i64 ((rd_T50 l0 a2).f4), .int .i64 0, .int .i64 0]) ?_ 5 _ rfl; (with_reducible repeat (first | refine blk_drewN ?_ _ | refine blk_drew ?_ | refine blk_alloc ?_ _)); refine blk_put (cs := #[.bool true, .bool ((rd_T50 l0 a2).f1), .int .i64 ((rd_T50 l0 a2).f2), .int .i64 ((rd_T50 l0 a2).f3), .int .i64 0, .int .i64 0, .int .i64 0]) ?_ 4 _ rfl; (with_reducible repeat (first | refine blk_drewN ?_ _ | refine blk_drew ?_ | refine blk_alloc ?_ _)); refine blk_put (cs := #[.bool true, .bool ((rd_T50 l0 a2).f1), .int .i64 ((rd_T50 l0 a2).f2), .int .i64 0, .int .i64 0, .int .i64 0, .int .i64 0]) ?_ 3 _ rfl; (with_reducible repeat (first | refine blk_drewN ?_ _ | refine blk_drew ?_ | refine blk_alloc ?_ _)); refine blk_put (cs := #[.bool true, .bool ((rd_T50 l0 a2).f1), .int .i64 0, .int .i64 0, .int .i64 0, .int .i64 0, .int .i64 0]) ?_ 2 _ rfl; (with_reducible repeat (first | refine blk_drewN ?_ _ | refine blk_drew ?_ | refine blk_alloc ?_ _)); refine blk_put (cs := #[.bool true, .bool false, .int .i64 0, .int .i64 0, .int .i64 0, .int .i64 0, .int .i64 0]) ?_ 1 _ rfl; (with_reducible repeat (first | refine blk_drewN ?_ _ | refine blk_drew ?_ | refine blk_alloc ?_ _)); refine blk_put (cs := #[.bool false, .bool false, .int .i64 0, .int .i64 0, .int .i64 0, .int .i64 0, .int .i64 0]) ?_ 0 _ rfl; (with_reducible repeat (first | refine blk_drewN ?_ _ | refine blk_drew ?_ | refine blk_alloc ?_ _)); exact BK134.out⟩, ⟨by repeat (first | (with_reducible first | exact HB.out | apply below_alloc | apply pw_below_drewN | apply below_drew1 | refine below_set ?_ GE134.out) | exact HB.out)⟩⟩
              · rw [if_neg c16] at H
                have c16b0 : (((rd_T50 l0 a2).f4) == 3) = false := beq_eq_false_iff_ne.mpr c16
                have c16b1 : (((rd_T50 l0 a2).f4) != 3) = true := bne_iff_ne.mpr c16
                have H' := Aside0.mk H
                clear H
                have hcz18_0 : w10.cell? ⟨gb134, 0, none⟩ = some (.bool false) := (blk_cell BK134.out 0).trans rfl
                have hcz18_1 : w10.cell? ⟨gb134, 1, none⟩ = some (.bool false) := (blk_cell BK134.out 1).trans rfl
                have hcz18_2 : w10.cell? ⟨gb134, 2, none⟩ = some (.int .i64 0) := (blk_cell BK134.out 2).trans rfl
                have hcz18_3 : w10.cell? ⟨gb134, 3, none⟩ = some (.int .i64 0) := (blk_cell BK134.out 3).trans rfl
                have hcz18_4 : w10.cell? ⟨gb134, 4, none⟩ = some (.int .i64 0) := (blk_cell BK134.out 4).trans rfl
                have hcz18_5 : w10.cell? ⟨gb134, 5, none⟩ = some (.int .i64 0) := (blk_cell BK134.out 5).trans rfl
                have hcz18_6 : w10.cell? ⟨gb134, 6, none⟩ = some (.int .i64 0) := (blk_cell BK134.out 6).trans rfl
                have hfz18_0 := blk_frozen BK134.out 0
                have hfz18_1 := blk_frozen BK134.out 1
                have hfz18_2 := blk_frozen BK134.out 2
                have hfz18_3 := blk_frozen BK134.out 3
                have hfz18_4 := blk_frozen BK134.out 4
                have hfz18_5 := blk_frozen BK134.out 5
                have hfz18_6 := blk_frozen BK134.out 6
                go_wp2
                go_meet
                case rel => exact ⟨_, (false), (by first | rfl | (simp; done) | (simp [*]; done)), H', ⟨by first | omega | exact Nat.le_refl _⟩, ⟨by (with_reducible repeat (first | refine blk_drewN ?_ _ | refine blk_drew ?_ | refine blk_alloc ?_ _)); refine blk_put (cs := #[.bool true, .bool ((rd_T50 l0 a2).f1), .int .i64 ((rd_T50 l0 a2).f2), .int .i64 ((rd_T50 l0 a2).f3), .int .i64 ((rd_T50 l0 a2).f4), .int .i64 ((rd_T50 l0 a2).f5), .int .i64 0]) ?_ 6 _ rfl; (with_reducible repeat (first | refine blk_drewN ?_ _ | refine blk_drew ?_ | refine blk_alloc ?_ _)); refine blk_put (cs := #[.bool true, .bool ((rd_T50 l0 a2).f1), .int .i64 ((rd_T50 l0 a2).f2), .int .i64 ((rd_T50 l0 a2).f3), .int .i64 ((rd_T50 l0 a2).f4), .int .i64 0, .int .i64 0]) ?_ 5 _ rfl; (with_reducible repeat (first | refine blk_drewN ?_ _ | refine blk_drew ?_ | refine blk_alloc ?_ _)); refine blk_put (cs := #[.bool true, .bool ((rd_T50 l0 a2).f1), .int .i64 ((rd_T50 l0 a2).f2), .int .i64 ((rd_T50 l0 a2).f3), .int .i64 0, .int .i64 0, .int .i64 0]) ?_ 4 _ rfl; (with_reducible repeat (first | refine blk_drewN ?_ _ | refine blk_drew ?_ | refine blk_alloc ?_ _)); refine blk_put (cs := #[.bool true, .bool ((rd_T50 l0 a2).f1), .int .i64 ((rd_T50 l0 a2).f2), .int .i64 0, .int .i64 0, .int .i64 0, .int .i64 0]) ?_ 3 _ rfl; (with_reducible repeat (first | refine blk_drewN ?_ _ | refine blk_drew ?_ | refine blk_alloc ?_ _)); refine blk_put (cs := #[.bool true, .bool ((rd_T50 l0 a2).f1), .int .i64 0, .int .i64 0, .int .i64 0, .int .i64 0, .int .i64 0]) ?_ 2 _ rfl; (with_reducible repeat (first | refine blk_drewN ?_ _ | refine blk_drew ?_ | refine blk_alloc ?_ _)); refine blk_put (cs := #[.bool true, .bool false, .int .i64 0, .int .i64 0, .int .i64 0, .int .i64 0, .int .i64 0]) ?_ 1 _ rfl; (with_reducible repeat (first | refine blk_drewN ?_ _ | refine blk_drew ?_ | refine blk_alloc ?_ _)); refine blk_put (cs := #[.bool false, .bool false, .int .i64 0, .int .i64 0, .int .i64 0, .int .i64 0, .int .i64 0]) ?_ 0 _ rfl; (with_reducible repeat (first | refine blk_drewN ?_ _ | refine blk_drew ?_ | refine blk_alloc ?_ _)); exact BK134.out⟩, ⟨by repeat (first | (with_reducible first | exact HB.out | apply below_alloc | apply pw_below_drewN | apply below_drew1 | refine below_set ?_ GE134.out) | exact HB.out)⟩⟩
        case rest =>
          clear HC9
          try clear c1
          try clear p1
          try clear q1
          try clear hx1
          try clear c2
          try clear p2
          try clear c4
          try clear c4b0
          try clear c5
          try clear c5b0
          try clear q6
          try clear c7
          try clear c12
          try clear c12b0
          try clear c12b1
          try clear p13
          try clear q13
          try clear hx13
          try clear c14
          try clear c14b0
          try clear c14b1
          try clear c16
          try clear c16b0
          try clear c16b1
          try clear hcz11_0
          try clear hcz11_1
          try clear hcz11_2
          try clear hcz11_3
          try clear hcz11_4
          try clear hcz11_5
          try clear hcz11_6
          try clear hcz13_0
          try clear hcz13_1
          try clear hcz13_2
          try clear hcz13_3
          try clear hcz13_4
          try clear hcz13_5
          try clear hcz13_6
          try clear hcz15_0
          try clear hcz15_1
          try clear hcz15_2
          try clear hcz15_3
          try clear hcz15_4
          try clear hcz15_5
          try clear hcz15_6
          try clear hcz17_0
          try clear hcz17_1
          try clear hcz17_2
          try clear hcz17_3
          try clear hcz17_4
          try clear hcz17_5
          try clear hcz17_6
          try clear hcz18_0
          try clear hcz18_1
          try clear hcz18_2
          try clear hcz18_3
          try clear hcz18_4
          try clear hcz18_5
          try clear hcz18_6
          try clear hfz11_0
          try clear hfz11_1
          try clear hfz11_2
          try clear hfz11_3
          try clear hfz11_4
          try clear hfz11_5
          try clear hfz11_6
          try clear hfz13_0
          try clear hfz13_1
          try clear hfz13_2
          try clear hfz13_3
          try clear hfz13_4
          try clear hfz13_5
          try clear hfz13_6
          try clear hfz15_0
          try clear hfz15_1
          try clear hfz15_2
          try clear hfz15_3
          try clear hfz15_4
          try clear hfz15_5
          try clear hfz15_6
          try clear hfz17_0
          try clear hfz17_1
          try clear hfz17_2
          try clear hfz17_3
          try clear hfz17_4
          try clear hfz17_5
          try clear hfz17_6
          try clear hfz18_0
          try clear hfz18_1
          try clear hfz18_2
          try clear hfz18_3
          try clear hfz18_4
          try clear hfz18_5
          try clear hfz18_6
          try clear hx133_0
          try clear hx133_1
          try clear hx133_2
          try clear hx133_3
          try clear hx133_4
          try clear hx133_5
          try clear hx133_6
          try clear p133
          try clear q133
          obtain ⟨kq, x19_8, rfl, HA, HJ8, BK134, HB⟩ := hcut
          cases kq with
          | zero => exact absurd HA.out (by simp [pacelineref18_output.j0])
          | succ kj8 =>
            have H := HA.out
            clear HA
            simp only [pacelineref18_output.j0] at H
            by_cases c19 : x19_8 = true
            · subst c19
              have H1 : ((pacelineref18_time.f ((rd_T50 l0 a2).f5)).bind fun t136 => ((pacelineref01_Add.f (mx 1 (mn ((rd_T50 l0 a2).f3) 1048576)) t136).bind fun t137 => (some t137))) = some r := by rw [if_pos rfl] at H; exact H
              clear H
              have H := H1
              clear H1
              replace H := Option.bind_eq_some_iff.mp H
              obtain ⟨t136, A200, H⟩ := H
              replace H : ((pacelineref01_Add.f (mx 1 (mn ((rd_T50 l0 a2).f3) 1048576)) t136).bind fun t137 => (some t137)) = some r := H
              have A20 := Aside0.mk A200
              clear A200
              obtain ⟨ji21, hji21⟩ : ∃ j_ : Int, (mn ((rd_T50 l0 a2).f3) 1048576) = j_ := ⟨_, rfl⟩
              replace H : ((pacelineref01_Add.f (mx 1 (ji21)) t136).bind fun t137 => (some t137)) = some r := by first | (rw [hji21] at H; exact H) | (simp only [hji21] at H ⊢; exact H)
              (try rw [hji21] at A20)
              have hji21_ : (if 1048576 < ((rd_T50 l0 a2).f3) then 1048576 else ((rd_T50 l0 a2).f3)) = ji21 := hji21
              obtain ⟨ji22, hji22⟩ : ∃ j_ : Int, (mx 1 (ji21)) = j_ := ⟨_, rfl⟩
              replace H : ((pacelineref01_Add.f (ji22) t136).bind fun t137 => (some t137)) = some r := by first | (rw [hji22] at H; exact H) | (simp only [hji22] at H ⊢; exact H)
              (try rw [hji22] at A20)
              have hji22_ : (if 1 < (ji21) then (ji21) else 1) = ji22 := hji22
              replace H := Option.bind_eq_some_iff.mp H
              obtain ⟨t137, A230, H⟩ := H
              replace H : (some t137) = some r := H
              have A23 := Aside0.mk A230
              clear A230
              obtain rfl := Option.some.inj H
              have hcz24_0 : wc.cell? ⟨gb134, 0, none⟩ = some (.bool true) := (blk_cell BK134.out 0).trans rfl
              have hcz24_1 : wc.cell? ⟨gb134, 1, none⟩ = some (.bool ((rd_T50 l0 a2).f1)) := (blk_cell BK134.out 1).trans rfl
              have hcz24_2 : wc.cell? ⟨gb134, 2, none⟩ = some (.int .i64 ((rd_T50 l0 a2).f2)) := (blk_cell BK134.out 2).trans rfl
              have hcz24_3 : wc.cell? ⟨gb134, 3, none⟩ = some (.int .i64 ((rd_T50 l0 a2).f3)) := (blk_cell BK134.out 3).trans rfl
              have hcz24_4 : wc.cell? ⟨gb134, 4, none⟩ = some (.int .i64 ((rd_T50 l0 a2).f4)) := (blk_cell BK134.out 4).trans rfl
              have hcz24_5 : wc.cell? ⟨gb134, 5, none⟩ = some (.int .i64 ((rd_T50 l0 a2).f5)) := (blk_cell BK134.out 5).trans rfl
              have hcz24_6 : wc.cell? ⟨gb134, 6, none⟩ = some (.int .i64 ((rd_T50 l0 a2).f6)) := (blk_cell BK134.out 6).trans rfl
              have hfz24_0 := blk_frozen BK134.out 0
              have hfz24_1 := blk_frozen BK134.out 1
              have hfz24_2 := blk_frozen BK134.out 2
              have hfz24_3 := blk_frozen BK134.out 3
              have hfz24_4 := blk_frozen BK134.out 4
              have hfz24_5 := blk_frozen BK134.out 5
              have hfz24_6 := blk_frozen BK134.out 6
              go_wp2_with (first | ((with_reducible refine gate_callee (f := 24) rfl ?_); refine goesL_ (some 40) rfl rfl Try.func24 (by kernel_rfl) rfl #[.int .i64 ((rd_T50 l0 a2).f5)] rfl (by (try simp only [List.map_toArray, List.map_cons, List.map_nil]); first | done | rfl | (simp only [List.length_drop, List.length_take]; rfl)) ?_; (with_reducible refine (pacelineref18_time.calls ((rd_T50 l0 a2).f5) t136 _ A20.out).mono ?_); rintro e w' ⟨rfl, ⟨nd, rfl⟩⟩; refine ⟨_, rfl, ?_⟩) | ((with_reducible refine gate_callee (f := 12) rfl ?_); refine goesL_ (some 68) rfl rfl Try.func12 (by kernel_rfl) rfl #[.int .i64 ji22, .int .i64 t136] rfl (by (try simp only [List.map_toArray, List.map_cons, List.map_nil]); first | done | (simp only [hji22]; rfl) | rfl | (simp only [List.length_drop, List.length_take]; rfl)) ?_; (with_reducible refine (pacelineref01_Add.calls ji22 t136 t137 _ A23.out).mono ?_); rintro e w' ⟨rfl, ⟨nd, rfl⟩⟩; refine ⟨_, rfl, ?_⟩))
              go_ret
              exact ⟨by first | rfl | (simp [errW_none, errW_some] <;> rfl) | (simp only [← hji21, ← hji22]; first | rfl | (simp [errW_none, errW_some] <;> rfl)) | (simp [*, errW_none, errW_some] <;> rfl), by repeat (first | (with_reducible first | exact HB.out | apply below_alloc | apply pw_below_drewN | apply below_drew1 | refine below_set ?_ GE134.out) | exact HB.out)⟩
            · replace c19 := Bool.eq_false_iff.mpr c19
              subst c19
              have H1 : (if ((rd_T50 l0 a2).f4) = 2 then (pacelineref18_output.j1 kj8 l0 l1 a2 t135 true true ((rd_T50 l0 a2).f1) ((rd_T50 l0 a2).f2) ((rd_T50 l0 a2).f3) ((rd_T50 l0 a2).f4) ((rd_T50 l0 a2).f5) ((rd_T50 l0 a2).f6)) else (pacelineref18_output.j1 kj8 l0 l1 a2 t135 (((rd_T50 l0 a2).f4) == 3) true ((rd_T50 l0 a2).f1) ((rd_T50 l0 a2).f2) ((rd_T50 l0 a2).f3) ((rd_T50 l0 a2).f4) ((rd_T50 l0 a2).f5) ((rd_T50 l0 a2).f6))) = some r := by rw [if_neg (show ¬ (false = true) by decide)] at H; exact H
              clear H
              have H := H1
              clear H1
              have HC25 := Aside0.mk H
              clear H
              go_upto_region 7 with (fail)
              go_cut [41] (fun v41 wc => ∃ (kq : Nat) (x41_24 : Bool), v41 = .bool x41_24 ∧ Aside0 (pacelineref18_output.j1 kq l0 l1 a2 t135 x41_24 true ((rd_T50 l0 a2).f1) ((rd_T50 l0 a2).f2) ((rd_T50 l0 a2).f3) ((rd_T50 l0 a2).f4) ((rd_T50 l0 a2).f5) ((rd_T50 l0 a2).f6) = some r) ∧ Aside0 (kq ≤ kj8) ∧ Aside0 (wc.heap[gb134]? = some (.cells #[.bool true, .bool ((rd_T50 l0 a2).f1), .int .i64 ((rd_T50 l0 a2).f2), .int .i64 ((rd_T50 l0 a2).f3), .int .i64 ((rd_T50 l0 a2).f4), .int .i64 ((rd_T50 l0 a2).f5), .int .i64 ((rd_T50 l0 a2).f6)] 50 (0, 0))) ∧ Aside0 (Below w.heap.size w wc))
              case first =>
                have H := HC25.out
                clear HC25
                by_cases c26 : ((rd_T50 l0 a2).f4) = 2
                · rw [if_pos c26] at H
                  have c26b0 : (((rd_T50 l0 a2).f4) == 2) = true := beq_iff_eq.mpr c26
                  have c26b1 : (((rd_T50 l0 a2).f4) != 2) = false := bne_eq_false_iff_eq.mpr c26
                  clear c26
                  (first | rw [c26b0] | (simp only [i64_w, i32_w]; rw [c26b0]) | skip)
                  have H' := Aside0.mk H
                  clear H
                  have hcz27_0 : wc.cell? ⟨gb134, 0, none⟩ = some (.bool true) := (blk_cell BK134.out 0).trans rfl
                  have hcz27_1 : wc.cell? ⟨gb134, 1, none⟩ = some (.bool ((rd_T50 l0 a2).f1)) := (blk_cell BK134.out 1).trans rfl
                  have hcz27_2 : wc.cell? ⟨gb134, 2, none⟩ = some (.int .i64 ((rd_T50 l0 a2).f2)) := (blk_cell BK134.out 2).trans rfl
                  have hcz27_3 : wc.cell? ⟨gb134, 3, none⟩ = some (.int .i64 ((rd_T50 l0 a2).f3)) := (blk_cell BK134.out 3).trans rfl
                  have hcz27_4 : wc.cell? ⟨gb134, 4, none⟩ = some (.int .i64 ((rd_T50 l0 a2).f4)) := (blk_cell BK134.out 4).trans rfl
                  have hcz27_5 : wc.cell? ⟨gb134, 5, none⟩ = some (.int .i64 ((rd_T50 l0 a2).f5)) := (blk_cell BK134.out 5).trans rfl
                  have hcz27_6 : wc.cell? ⟨gb134, 6, none⟩ = some (.int .i64 ((rd_T50 l0 a2).f6)) := (blk_cell BK134.out 6).trans rfl
                  have hfz27_0 := blk_frozen BK134.out 0
                  have hfz27_1 := blk_frozen BK134.out 1
                  have hfz27_2 := blk_frozen BK134.out 2
                  have hfz27_3 := blk_frozen BK134.out 3
                  have hfz27_4 := blk_frozen BK134.out 4
                  have hfz27_5 := blk_frozen BK134.out 5
                  have hfz27_6 := blk_frozen BK134.out 6
                  go_wp2
                  go_meet
                  case rel => exact ⟨_, (true), (by first | rfl | (simp; done) | (simp [*]; done)), H', ⟨by have := HJ8.out; first | omega | exact Nat.le_refl _⟩, ⟨by (with_reducible repeat (first | refine blk_drewN ?_ _ | refine blk_drew ?_ | refine blk_alloc ?_ _)); exact BK134.out⟩, ⟨by repeat (first | (with_reducible first | exact HB.out | apply below_alloc | apply pw_below_drewN | apply below_drew1 | refine below_set ?_ GE134.out) | exact HB.out)⟩⟩
                · rw [if_neg c26] at H
                  have c26b0 : (((rd_T50 l0 a2).f4) == 2) = false := beq_eq_false_iff_ne.mpr c26
                  have c26b1 : (((rd_T50 l0 a2).f4) != 2) = true := bne_iff_ne.mpr c26
                  (first | rw [c26b0] | (simp only [i64_w, i32_w]; rw [c26b0]) | skip)
                  have H' := Aside0.mk H
                  clear H
                  have hcz28_0 : wc.cell? ⟨gb134, 0, none⟩ = some (.bool true) := (blk_cell BK134.out 0).trans rfl
                  have hcz28_1 : wc.cell? ⟨gb134, 1, none⟩ = some (.bool ((rd_T50 l0 a2).f1)) := (blk_cell BK134.out 1).trans rfl
                  have hcz28_2 : wc.cell? ⟨gb134, 2, none⟩ = some (.int .i64 ((rd_T50 l0 a2).f2)) := (blk_cell BK134.out 2).trans rfl
                  have hcz28_3 : wc.cell? ⟨gb134, 3, none⟩ = some (.int .i64 ((rd_T50 l0 a2).f3)) := (blk_cell BK134.out 3).trans rfl
                  have hcz28_4 : wc.cell? ⟨gb134, 4, none⟩ = some (.int .i64 ((rd_T50 l0 a2).f4)) := (blk_cell BK134.out 4).trans rfl
                  have hcz28_5 : wc.cell? ⟨gb134, 5, none⟩ = some (.int .i64 ((rd_T50 l0 a2).f5)) := (blk_cell BK134.out 5).trans rfl
                  have hcz28_6 : wc.cell? ⟨gb134, 6, none⟩ = some (.int .i64 ((rd_T50 l0 a2).f6)) := (blk_cell BK134.out 6).trans rfl
                  have hfz28_0 := blk_frozen BK134.out 0
                  have hfz28_1 := blk_frozen BK134.out 1
                  have hfz28_2 := blk_frozen BK134.out 2
                  have hfz28_3 := blk_frozen BK134.out 3
                  have hfz28_4 := blk_frozen BK134.out 4
                  have hfz28_5 := blk_frozen BK134.out 5
                  have hfz28_6 := blk_frozen BK134.out 6
                  go_wp2
                  go_meet
                  case rel => exact ⟨_, ((((rd_T50 l0 a2).f4) == 3)), (by first | rfl | (simp; done) | (simp [*]; done)), H', ⟨by have := HJ8.out; first | omega | exact Nat.le_refl _⟩, ⟨by (with_reducible repeat (first | refine blk_drewN ?_ _ | refine blk_drew ?_ | refine blk_alloc ?_ _)); exact BK134.out⟩, ⟨by repeat (first | (with_reducible first | exact HB.out | apply below_alloc | apply pw_below_drewN | apply below_drew1 | refine below_set ?_ GE134.out) | exact HB.out)⟩⟩
              case rest =>
                clear HC25
                try clear c1
                try clear p1
                try clear q1
                try clear hx1
                try clear c2
                try clear p2
                try clear c4
                try clear c4b0
                try clear c5
                try clear c5b0
                try clear q6
                try clear c7
                try clear c12
                try clear c12b0
                try clear c12b1
                try clear p13
                try clear q13
                try clear hx13
                try clear c14
                try clear c14b0
                try clear c14b1
                try clear c16
                try clear c16b0
                try clear c16b1
                try clear c19
                try clear c20
                try clear c24
                try clear c26
                try clear c26b0
                try clear c26b1
                try clear hcz11_0
                try clear hcz11_1
                try clear hcz11_2
                try clear hcz11_3
                try clear hcz11_4
                try clear hcz11_5
                try clear hcz11_6
                try clear hcz13_0
                try clear hcz13_1
                try clear hcz13_2
                try clear hcz13_3
                try clear hcz13_4
                try clear hcz13_5
                try clear hcz13_6
                try clear hcz15_0
                try clear hcz15_1
                try clear hcz15_2
                try clear hcz15_3
                try clear hcz15_4
                try clear hcz15_5
                try clear hcz15_6
                try clear hcz17_0
                try clear hcz17_1
                try clear hcz17_2
                try clear hcz17_3
                try clear hcz17_4
                try clear hcz17_5
                try clear hcz17_6
                try clear hcz18_0
                try clear hcz18_1
                try clear hcz18_2
                try clear hcz18_3
                try clear hcz18_4
                try clear hcz18_5
                try clear hcz18_6
                try clear hcz24_0
                try clear hcz24_1
                try clear hcz24_2
                try clear hcz24_3
                try clear hcz24_4
                try clear hcz24_5
                try clear hcz24_6
                try clear hcz27_0
                try clear hcz27_1
                try clear hcz27_2
                try clear hcz27_3
                try clear hcz27_4
                try clear hcz27_5
                try clear hcz27_6
                try clear hcz28_0
                try clear hcz28_1
                try clear hcz28_2
                try clear hcz28_3
                try clear hcz28_4
                try clear hcz28_5
                try clear hcz28_6
                try clear hfz11_0
                try clear hfz11_1
                try clear hfz11_2
                try clear hfz11_3
                try clear hfz11_4
                try clear hfz11_5
                try clear hfz11_6
                try clear hfz13_0
                try clear hfz13_1
                try clear hfz13_2
                try clear hfz13_3
                try clear hfz13_4
                try clear hfz13_5
                try clear hfz13_6
                try clear hfz15_0
                try clear hfz15_1
                try clear hfz15_2
                try clear hfz15_3
                try clear hfz15_4
                try clear hfz15_5
                try clear hfz15_6
                try clear hfz17_0
                try clear hfz17_1
                try clear hfz17_2
                try clear hfz17_3
                try clear hfz17_4
                try clear hfz17_5
                try clear hfz17_6
                try clear hfz18_0
                try clear hfz18_1
                try clear hfz18_2
                try clear hfz18_3
                try clear hfz18_4
                try clear hfz18_5
                try clear hfz18_6
                try clear hfz24_0
                try clear hfz24_1
                try clear hfz24_2
                try clear hfz24_3
                try clear hfz24_4
                try clear hfz24_5
                try clear hfz24_6
                try clear hfz27_0
                try clear hfz27_1
                try clear hfz27_2
                try clear hfz27_3
                try clear hfz27_4
                try clear hfz27_5
                try clear hfz27_6
                try clear hfz28_0
                try clear hfz28_1
                try clear hfz28_2
                try clear hfz28_3
                try clear hfz28_4
                try clear hfz28_5
                try clear hfz28_6
                try clear hx133_0
                try clear hx133_1
                try clear hx133_2
                try clear hx133_3
                try clear hx133_4
                try clear hx133_5
                try clear hx133_6
                try clear p1
                try clear p13
                try clear p133
                try clear p2
                try clear q1
                try clear q13
                try clear q133
                try clear q6
                obtain ⟨kq, x41_24, rfl, HA, HJ24, BK134, HB⟩ := hcut
                cases kq with
                | zero => exact absurd HA.out (by simp [pacelineref18_output.j1])
                | succ kj24 =>
                  have H := HA.out
                  clear HA
                  simp only [pacelineref18_output.j1] at H
                  by_cases c29 : x41_24 = true
                  · subst c29
                    have H1 : ((pacelineref18_time.f ((rd_T50 l0 a2).f5)).bind fun t138 => ((pacelineref18_time.f ((rd_T50 l0 a2).f6)).bind fun t139 => ((pacelineref18_others.f kj24 l0 l1 a2).bind fun t140 => ((pacelineref01_Add.f (mx 1 (mn ((rd_T50 l0 a2).f3) 1048576)) (mx t135 (mn (mn t138 t139) t140))).bind fun t141 => (some t141))))) = some r := by rw [if_pos rfl] at H; exact H
                    clear H
                    have H := H1
                    clear H1
                    replace H := Option.bind_eq_some_iff.mp H
                    obtain ⟨t138, A300, H⟩ := H
                    replace H : ((pacelineref18_time.f ((rd_T50 l0 a2).f6)).bind fun t139 => ((pacelineref18_others.f kj24 l0 l1 a2).bind fun t140 => ((pacelineref01_Add.f (mx 1 (mn ((rd_T50 l0 a2).f3) 1048576)) (mx t135 (mn (mn t138 t139) t140))).bind fun t141 => (some t141)))) = some r := H
                    have A30 := Aside0.mk A300
                    clear A300
                    replace H := Option.bind_eq_some_iff.mp H
                    obtain ⟨t139, A310, H⟩ := H
                    replace H : ((pacelineref18_others.f kj24 l0 l1 a2).bind fun t140 => ((pacelineref01_Add.f (mx 1 (mn ((rd_T50 l0 a2).f3) 1048576)) (mx t135 (mn (mn t138 t139) t140))).bind fun t141 => (some t141))) = some r := H
                    have A31 := Aside0.mk A310
                    clear A310
                    replace H := Option.bind_eq_some_iff.mp H
                    obtain ⟨t140, A320, H⟩ := H
                    replace H : ((pacelineref01_Add.f (mx 1 (mn ((rd_T50 l0 a2).f3) 1048576)) (mx t135 (mn (mn t138 t139) t140))).bind fun t141 => (some t141)) = some r := H
                    have A32 := Aside0.mk A320
                    clear A320
                    obtain ⟨ji33, hji33⟩ : ∃ j_ : Int, (mn t138 t139) = j_ := ⟨_, rfl⟩
                    replace H : ((pacelineref01_Add.f (mx 1 (mn ((rd_T50 l0 a2).f3) 1048576)) (mx t135 (mn (ji33) t140))).bind fun t141 => (some t141)) = some r := by first | (rw [hji33] at H; exact H) | (simp only [hji33] at H ⊢; exact H)
                    (try rw [hji33] at A30)
                    (try rw [hji33] at A31)
                    (try rw [hji33] at A32)
                    have hji33_ : (if t139 < t138 then t139 else t138) = ji33 := hji33
                    obtain ⟨ji34, hji34⟩ : ∃ j_ : Int, (mn (ji33) t140) = j_ := ⟨_, rfl⟩
                    replace H : ((pacelineref01_Add.f (mx 1 (mn ((rd_T50 l0 a2).f3) 1048576)) (mx t135 (ji34))).bind fun t141 => (some t141)) = some r := by first | (rw [hji34] at H; exact H) | (simp only [hji34] at H ⊢; exact H)
                    (try rw [hji34] at A30)
                    (try rw [hji34] at A31)
                    (try rw [hji34] at A32)
                    have hji34_ : (if t140 < (ji33) then t140 else (ji33)) = ji34 := hji34
                    obtain ⟨ji35, hji35⟩ : ∃ j_ : Int, (mx t135 (ji34)) = j_ := ⟨_, rfl⟩
                    replace H : ((pacelineref01_Add.f (mx 1 (mn ((rd_T50 l0 a2).f3) 1048576)) (ji35)).bind fun t141 => (some t141)) = some r := by first | (rw [hji35] at H; exact H) | (simp only [hji35] at H ⊢; exact H)
                    (try rw [hji35] at A30)
                    (try rw [hji35] at A31)
                    (try rw [hji35] at A32)
                    have hji35_ : (if t135 < (ji34) then (ji34) else t135) = ji35 := hji35
                    obtain ⟨ji36, hji36⟩ : ∃ j_ : Int, (mn ((rd_T50 l0 a2).f3) 1048576) = j_ := ⟨_, rfl⟩
                    replace H : ((pacelineref01_Add.f (mx 1 (ji36)) (ji35)).bind fun t141 => (some t141)) = some r := by first | (rw [hji36] at H; exact H) | (simp only [hji36] at H ⊢; exact H)
                    (try rw [hji36] at A30)
                    (try rw [hji36] at A31)
                    (try rw [hji36] at A32)
                    have hji36_ : (if 1048576 < ((rd_T50 l0 a2).f3) then 1048576 else ((rd_T50 l0 a2).f3)) = ji36 := hji36
                    obtain ⟨ji37, hji37⟩ : ∃ j_ : Int, (mx 1 (ji36)) = j_ := ⟨_, rfl⟩
                    replace H : ((pacelineref01_Add.f (ji37) (ji35)).bind fun t141 => (some t141)) = some r := by first | (rw [hji37] at H; exact H) | (simp only [hji37] at H ⊢; exact H)
                    (try rw [hji37] at A30)
                    (try rw [hji37] at A31)
                    (try rw [hji37] at A32)
                    have hji37_ : (if 1 < (ji36) then (ji36) else 1) = ji37 := hji37
                    replace H := Option.bind_eq_some_iff.mp H
                    obtain ⟨t141, A380, H⟩ := H
                    replace H : (some t141) = some r := H
                    have A38 := Aside0.mk A380
                    clear A380
                    obtain rfl := Option.some.inj H
                    try go_wp2
                    have n0_ := Aside0.mk (blk_drew BK134.out)
                    have n1_ := Aside0.mk (below_drew1 HB.out)
                    clear BK134
                    clear HB
                    have BK134 := n0_
                    have HB := n1_
                    clear n0_ n1_
                    refine start_ (n := 14) (S := fun w' => w'.cell? ⟨gb134, 0, none⟩ = some (.bool true) ∧ w'.cell? ⟨gb134, 1, none⟩ = some (.bool ((rd_T50 l0 a2).f1)) ∧ w'.cell? ⟨gb134, 2, none⟩ = some (.int .i64 ((rd_T50 l0 a2).f2)) ∧ w'.cell? ⟨gb134, 3, none⟩ = some (.int .i64 ((rd_T50 l0 a2).f3)) ∧ w'.cell? ⟨gb134, 4, none⟩ = some (.int .i64 ((rd_T50 l0 a2).f4)) ∧ w'.cell? ⟨gb134, 5, none⟩ = some (.int .i64 ((rd_T50 l0 a2).f5)) ∧ w'.cell? ⟨gb134, 6, none⟩ = some (.int .i64 ((rd_T50 l0 a2).f6))) (ds := []) #[false, false, false, false, false, false, false, false, false, false, false, false, false, false] (by kernel_rfl) rfl rfl ⟨(blk_cell BK134.out 0).trans rfl, (blk_cell BK134.out 1).trans rfl, (blk_cell BK134.out 2).trans rfl, (blk_cell BK134.out 3).trans rfl, (blk_cell BK134.out 4).trans rfl, (blk_cell BK134.out 5).trans rfl, (blk_cell BK134.out 6).trans rfl⟩ (fun hHeld => ?_); refine with_tabW pacelineref18_output.tab8 pacelineref18_output.bits8 (fun HT_ HW_ => ?_)
                    generalize wc.drew = w39 at BK134 HB hHeld ⊢
                    refine pure_ (i := 0) (N := some 50) (v := ?_) (a' := ?_) #[true, false, false, false, false, false, false, false, false, false, false, false, false, false] rfl rfl (any_of HT_.out (by kernel_rfl)) (fun _ _ _ h => h) (Or.inl ⟨by rfl, ?_⟩) ?_ ?_
                    rotate_left
                    · intro w'
                      go_simp
                      with_reducible rfl
                    rotate_left
                    · simp only [Act.put, List.setIfInBounds_toArray, List.set_cons_zero, List.set_cons_succ, i64_w, i32_w]
                      rfl
                    refine pure_ (i := 1) (N := some 51) (v := ?_) (a' := ?_) #[true, true, false, false, false, false, false, false, false, false, false, false, false, false] rfl rfl (any_of HT_.out (by kernel_rfl)) (fun _ _ _ h => h) (Or.inl ⟨by rfl, ?_⟩) ?_ ?_
                    rotate_left
                    · intro w'
                      go_simp
                      with_reducible rfl
                    rotate_left
                    · simp only [Act.put, List.setIfInBounds_toArray, List.set_cons_zero, List.set_cons_succ, i64_w, i32_w]
                      rfl
                    refine pure_ (i := 4) (N := some 54) (v := ?_) (a' := ?_) #[true, true, false, false, true, false, false, false, false, false, false, false, false, false] rfl rfl (any_of HT_.out (by kernel_rfl)) (fun _ _ _ h => h) (Or.inl ⟨by rfl, ?_⟩) ?_ ?_
                    rotate_left
                    · intro w'
                      go_simp
                      with_reducible rfl
                    rotate_left
                    · simp only [Act.put, List.setIfInBounds_toArray, List.set_cons_zero, List.set_cons_succ, i64_w, i32_w]
                      rfl
                    refine pure_ (i := 7) (N := some 57) (v := ?_) (a' := ?_) #[true, true, false, false, true, false, false, true, false, false, false, false, false, false] rfl rfl (any_of HT_.out (by kernel_rfl)) (fun _ _ _ h => h) (Or.inl ⟨by rfl, ?_⟩) ?_ ?_
                    rotate_left
                    · intro w'
                      go_simp
                      with_reducible rfl
                    rotate_left
                    · simp only [Act.put, List.setIfInBounds_toArray, List.set_cons_zero, List.set_cons_succ, i64_w, i32_w]
                      rfl
                    refine pure_ (i := 8) (N := some 58) (v := ?_) (a' := ?_) #[true, true, false, false, true, false, false, true, true, false, false, false, false, false] rfl rfl (any_of HT_.out (by kernel_rfl)) (fun _ _ _ h => h) (Or.inl ⟨by rfl, ?_⟩) ?_ ?_
                    rotate_left
                    · intro w'
                      go_simp
                      with_reducible rfl
                    rotate_left
                    · simp only [Act.put, List.setIfInBounds_toArray, List.set_cons_zero, List.set_cons_succ, i64_w, i32_w]
                      rfl
                    refine pure_ (i := 9) (N := some 59) (v := ?_) (a' := ?_) #[true, true, false, false, true, false, false, true, true, true, false, false, false, false] rfl rfl (any_of HT_.out (by kernel_rfl)) (fun _ _ _ h => h) (Or.inl ⟨by rfl, ?_⟩) ?_ ?_
                    rotate_left
                    · intro w'
                      go_simp
                      with_reducible rfl
                    rotate_left
                    · simp only [Act.put, List.setIfInBounds_toArray, List.set_cons_zero, List.set_cons_succ, i64_w, i32_w]
                      rfl
                    refine take_ (i := 2) (N := some 52) (v := ?_) (a' := ?_) #[true, true, true, false, true, false, false, true, true, true, false, false, false, false] rfl rfl (take_ofW HT_.out HW_.out (by kernel_rfl)) (fun _ _ _ h => h) (Or.inl ⟨by rfl, ?_⟩) hHeld ?_ ?_
                    rotate_left
                    · rintro w' ⟨s0, s1, s2, s3, s4, s5, s6⟩
                      go_simp
                      with_reducible rfl
                    rotate_left
                    · simp only [Act.put, List.setIfInBounds_toArray, List.set_cons_zero, List.set_cons_succ, i64_w, i32_w]
                      rfl
                    refine take_ (i := 5) (N := some 55) (v := ?_) (a' := ?_) #[true, true, true, false, true, true, false, true, true, true, false, false, false, false] rfl rfl (take_ofW HT_.out HW_.out (by kernel_rfl)) (fun _ _ _ h => h) (Or.inl ⟨by rfl, ?_⟩) hHeld ?_ ?_
                    rotate_left
                    · rintro w' ⟨s0, s1, s2, s3, s4, s5, s6⟩
                      go_simp
                      with_reducible rfl
                    rotate_left
                    · simp only [Act.put, List.setIfInBounds_toArray, List.set_cons_zero, List.set_cons_succ, i64_w, i32_w]
                      rfl
                    refine one_ (i := 3) (N := some 53) #[true, true, true, true, true, true, false, true, true, true, false, false, false, false] rfl rfl (one_of HT_.out (by kernel_rfl)) (by decide) (fun K hK => ?_)
                    refine goes_ Try.func24 (by kernel_rfl) rfl #[.int .i64 ((rd_T50 l0 a2).f5)] (by rfl) rfl rfl (by (try simp only [List.map_toArray, List.map_cons, List.map_nil]); first | done | rfl | (simp only [List.length_drop, List.length_take]; rfl)) ?_
                    with_reducible refine (pacelineref18_time.calls ((rd_T50 l0 a2).f5) t138 _ A30.out).mono ?_
                    rintro e w' ⟨rfl, ⟨nd, rfl⟩⟩
                    refine ⟨_, rfl, ?_⟩
                    refine hK.out _ _ ⟨(blk_cell BK134.out 0).trans rfl, (blk_cell BK134.out 1).trans rfl, (blk_cell BK134.out 2).trans rfl, (blk_cell BK134.out 3).trans rfl, (blk_cell BK134.out 4).trans rfl, (blk_cell BK134.out 5).trans rfl, (blk_cell BK134.out 6).trans rfl⟩ (fun hHeld => ?_)
                    clear hK K
                    refine norm_ (a' := ?_) ?_ ?_
                    rotate_left
                    · show Act.put _ (some 53) _ = _
                      simp only [Act.put, List.setIfInBounds_toArray, List.set_cons_zero, List.set_cons_succ, i64_w, i32_w]
                      rfl
                    refine one_ (i := 6) (N := some 56) #[true, true, true, true, true, true, true, true, true, true, false, false, false, false] rfl rfl (one_of HT_.out (by kernel_rfl)) (by decide) (fun K hK => ?_)
                    refine goes_ Try.func24 (by kernel_rfl) rfl #[.int .i64 ((rd_T50 l0 a2).f6)] (by rfl) rfl rfl (by (try simp only [List.map_toArray, List.map_cons, List.map_nil]); first | done | rfl | (simp only [List.length_drop, List.length_take]; rfl)) ?_
                    with_reducible refine (pacelineref18_time.calls ((rd_T50 l0 a2).f6) t139 _ A31.out).mono ?_
                    rintro e w' ⟨rfl, ⟨nd, rfl⟩⟩
                    refine ⟨_, rfl, ?_⟩
                    refine hK.out _ _ ⟨(blk_cell BK134.out 0).trans rfl, (blk_cell BK134.out 1).trans rfl, (blk_cell BK134.out 2).trans rfl, (blk_cell BK134.out 3).trans rfl, (blk_cell BK134.out 4).trans rfl, (blk_cell BK134.out 5).trans rfl, (blk_cell BK134.out 6).trans rfl⟩ (fun hHeld => ?_)
                    clear hK K
                    refine norm_ (a' := ?_) ?_ ?_
                    rotate_left
                    · show Act.put _ (some 56) _ = _
                      simp only [Act.put, List.setIfInBounds_toArray, List.set_cons_zero, List.set_cons_succ, i64_w, i32_w]
                      rfl
                    refine one_ (i := 10) (N := some 60) #[true, true, true, true, true, true, true, true, true, true, true, false, false, false] rfl rfl (one_of HT_.out (by kernel_rfl)) (by decide) (fun K hK => ?_)
                    refine goes_ Try.func22 (by kernel_rfl) rfl #[.slice (some ad133) l0.length c0, .slice A1 l1.length c1, .int .i64 a2] (by rfl) rfl rfl (by (try simp only [List.map_toArray, List.map_cons, List.map_nil]); first | done | rfl | (simp only [List.length_drop, List.length_take]; rfl)) ?_
                    with_reducible refine (pacelineref18_others.calls kj24 _ _ l0 _ _ l1 a2 t140 _ ?side1 ?side2 ?side3 ?side4 A32.out).mono ?_
                    (case side1 => repeat (first | exact (Kd.C_below HR0.out (by repeat (first | (with_reducible first | exact HB.out | apply below_alloc | apply pw_below_drewN | apply below_drew1 | refine below_set ?_ GE134.out) | exact HB.out))) | (with_reducible refine Kd.C_alloc ?_ _) | (with_reducible refine Kd.C_drewN ?_ _) | (with_reducible refine Kd.C_drew ?_)))
                    (case side2 => exact HC0.out)
                    (case side3 => repeat (first | exact (Kd.C_below HR1.out (by repeat (first | (with_reducible first | exact HB.out | apply below_alloc | apply pw_below_drewN | apply below_drew1 | refine below_set ?_ GE134.out) | exact HB.out))) | (with_reducible refine Kd.C_alloc ?_ _) | (with_reducible refine Kd.C_drewN ?_ _) | (with_reducible refine Kd.C_drew ?_)))
                    (case side4 => exact HC1.out)
                    rintro e w40 ⟨rfl, hb⟩
                    refine ⟨_, rfl, ?_⟩
                    have n0_ := Aside0.mk (blk_below (g := gb134) (o := .cells #[.bool true, .bool ((rd_T50 l0 a2).f1), .int .i64 ((rd_T50 l0 a2).f2), .int .i64 ((rd_T50 l0 a2).f3), .int .i64 ((rd_T50 l0 a2).f4), .int .i64 ((rd_T50 l0 a2).f5), .int .i64 ((rd_T50 l0 a2).f6)] 50 (0, 0)) (by (with_reducible repeat (first | refine blk_drewN ?_ _ | refine blk_drew ?_ | refine blk_alloc ?_ _)); exact BK134.out) hb)
                    have n1_ := Aside0.mk (below_step (by repeat (first | (with_reducible first | exact HB.out | apply below_alloc | apply pw_below_drewN | apply below_drew1 | refine below_set ?_ GE134.out) | exact HB.out)) hb)
                    clear BK134
                    clear HB
                    have BK134 := n0_
                    have HB := n1_
                    clear n0_ n1_
                    (try clear hb)
                    (try clear hb2)
                    (try clear hk)
                    (try clear hi)
                    refine hK.out _ _ ⟨(blk_cell BK134.out 0).trans rfl, (blk_cell BK134.out 1).trans rfl, (blk_cell BK134.out 2).trans rfl, (blk_cell BK134.out 3).trans rfl, (blk_cell BK134.out 4).trans rfl, (blk_cell BK134.out 5).trans rfl, (blk_cell BK134.out 6).trans rfl⟩ (fun hHeld => ?_)
                    clear hK K
                    refine norm_ (a' := ?_) ?_ ?_
                    rotate_left
                    · show Act.put _ (some 60) _ = _
                      simp only [Act.put, List.setIfInBounds_toArray, List.set_cons_zero, List.set_cons_succ, i64_w, i32_w]
                      rfl
                    refine pure_ (i := 11) (N := some 61) (v := ?_) (a' := ?_) #[true, true, true, true, true, true, true, true, true, true, true, true, false, false] rfl rfl (any_of HT_.out (by kernel_rfl)) (fun _ _ _ h => h) (Or.inl ⟨by rfl, ?_⟩) ?_ ?_
                    rotate_left
                    · intro w'
                      go_simp
                      with_reducible rfl
                    rotate_left
                    · simp only [Act.put, List.setIfInBounds_toArray, List.set_cons_zero, List.set_cons_succ, i64_w, i32_w]
                      rfl
                    refine pure_ (i := 12) (N := some 62) (v := ?_) (a' := ?_) #[true, true, true, true, true, true, true, true, true, true, true, true, true, false] rfl rfl (any_of HT_.out (by kernel_rfl)) (fun _ _ _ h => h) (Or.inl ⟨by rfl, ?_⟩) ?_ ?_
                    rotate_left
                    · intro w'
                      go_simp
                      with_reducible rfl
                    rotate_left
                    · simp only [Act.put, List.setIfInBounds_toArray, List.set_cons_zero, List.set_cons_succ, i64_w, i32_w]
                      rfl
                    refine pure_ (i := 13) (N := some 8) (v := ?_) (a' := ?_) #[true, true, true, true, true, true, true, true, true, true, true, true, true, true] rfl rfl (any_of HT_.out (by kernel_rfl)) (fun _ _ _ h => h) (Or.inl ⟨by rfl, ?_⟩) ?_ ?_
                    rotate_left
                    · intro w'
                      go_simp
                      with_reducible rfl
                    rotate_left
                    · simp only [Act.put, List.setIfInBounds_toArray, List.set_cons_zero, List.set_cons_succ, i64_w, i32_w]
                      rfl
                    refine done_ (done_of HT_.out (by kernel_rfl)) ?_
                    have hcz41_0 : w40.cell? ⟨gb134, 0, none⟩ = some (.bool true) := (blk_cell BK134.out 0).trans rfl
                    have hcz41_1 : w40.cell? ⟨gb134, 1, none⟩ = some (.bool ((rd_T50 l0 a2).f1)) := (blk_cell BK134.out 1).trans rfl
                    have hcz41_2 : w40.cell? ⟨gb134, 2, none⟩ = some (.int .i64 ((rd_T50 l0 a2).f2)) := (blk_cell BK134.out 2).trans rfl
                    have hcz41_3 : w40.cell? ⟨gb134, 3, none⟩ = some (.int .i64 ((rd_T50 l0 a2).f3)) := (blk_cell BK134.out 3).trans rfl
                    have hcz41_4 : w40.cell? ⟨gb134, 4, none⟩ = some (.int .i64 ((rd_T50 l0 a2).f4)) := (blk_cell BK134.out 4).trans rfl
                    have hcz41_5 : w40.cell? ⟨gb134, 5, none⟩ = some (.int .i64 ((rd_T50 l0 a2).f5)) := (blk_cell BK134.out 5).trans rfl
                    have hcz41_6 : w40.cell? ⟨gb134, 6, none⟩ = some (.int .i64 ((rd_T50 l0 a2).f6)) := (blk_cell BK134.out 6).trans rfl
                    have hfz41_0 := blk_frozen BK134.out 0
                    have hfz41_1 := blk_frozen BK134.out 1
                    have hfz41_2 := blk_frozen BK134.out 2
                    have hfz41_3 := blk_frozen BK134.out 3
                    have hfz41_4 := blk_frozen BK134.out 4
                    have hfz41_5 := blk_frozen BK134.out 5
                    have hfz41_6 := blk_frozen BK134.out 6
                    try go_wp2_with (first | ((with_reducible refine gate_callee (f := 12) rfl ?_); refine goesL_ (some 68) rfl rfl Try.func12 (by kernel_rfl) rfl #[.int .i64 ji37, .int .i64 ji35] rfl (by (try simp only [List.map_toArray, List.map_cons, List.map_nil]); first | done | (simp only [hji35, hji37]; rfl) | rfl | (simp only [List.length_drop, List.length_take]; rfl)) ?_; (with_reducible refine (pacelineref01_Add.calls ji37 ji35 t141 _ A38.out).mono ?_); rintro e w' ⟨rfl, ⟨nd, rfl⟩⟩; refine ⟨_, rfl, ?_⟩))
                    go_ret
                    exact ⟨by first | rfl | (simp [errW_none, errW_some] <;> rfl) | (simp only [← hji33, ← hji34, ← hji35, ← hji36, ← hji37]; first | rfl | (simp [errW_none, errW_some] <;> rfl)) | (simp [*, errW_none, errW_some] <;> rfl), by repeat (first | (with_reducible first | exact HB.out | apply below_alloc | apply pw_below_drewN | apply below_drew1 | refine below_set ?_ GE134.out) | exact HB.out)⟩
                  · replace c29 := Bool.eq_false_iff.mpr c29
                    subst c29
                    have H1 : ((pacelineref01_Add.f (mx 1 (mn ((rd_T50 l0 a2).f3) 1048576)) t135).bind fun t142 => (some t142)) = some r := by rw [if_neg (show ¬ (false = true) by decide)] at H; exact H
                    clear H
                    have H := H1
                    clear H1
                    obtain ⟨ji42, hji42⟩ : ∃ j_ : Int, (mn ((rd_T50 l0 a2).f3) 1048576) = j_ := ⟨_, rfl⟩
                    replace H : ((pacelineref01_Add.f (mx 1 (ji42)) t135).bind fun t142 => (some t142)) = some r := by first | (rw [hji42] at H; exact H) | (simp only [hji42] at H ⊢; exact H)
                    have hji42_ : (if 1048576 < ((rd_T50 l0 a2).f3) then 1048576 else ((rd_T50 l0 a2).f3)) = ji42 := hji42
                    obtain ⟨ji43, hji43⟩ : ∃ j_ : Int, (mx 1 (ji42)) = j_ := ⟨_, rfl⟩
                    replace H : ((pacelineref01_Add.f (ji43) t135).bind fun t142 => (some t142)) = some r := by first | (rw [hji43] at H; exact H) | (simp only [hji43] at H ⊢; exact H)
                    have hji43_ : (if 1 < (ji42) then (ji42) else 1) = ji43 := hji43
                    replace H := Option.bind_eq_some_iff.mp H
                    obtain ⟨t142, A440, H⟩ := H
                    replace H : (some t142) = some r := H
                    have A44 := Aside0.mk A440
                    clear A440
                    obtain rfl := Option.some.inj H
                    have hcz45_0 : wc.cell? ⟨gb134, 0, none⟩ = some (.bool true) := (blk_cell BK134.out 0).trans rfl
                    have hcz45_1 : wc.cell? ⟨gb134, 1, none⟩ = some (.bool ((rd_T50 l0 a2).f1)) := (blk_cell BK134.out 1).trans rfl
                    have hcz45_2 : wc.cell? ⟨gb134, 2, none⟩ = some (.int .i64 ((rd_T50 l0 a2).f2)) := (blk_cell BK134.out 2).trans rfl
                    have hcz45_3 : wc.cell? ⟨gb134, 3, none⟩ = some (.int .i64 ((rd_T50 l0 a2).f3)) := (blk_cell BK134.out 3).trans rfl
                    have hcz45_4 : wc.cell? ⟨gb134, 4, none⟩ = some (.int .i64 ((rd_T50 l0 a2).f4)) := (blk_cell BK134.out 4).trans rfl
                    have hcz45_5 : wc.cell? ⟨gb134, 5, none⟩ = some (.int .i64 ((rd_T50 l0 a2).f5)) := (blk_cell BK134.out 5).trans rfl
                    have hcz45_6 : wc.cell? ⟨gb134, 6, none⟩ = some (.int .i64 ((rd_T50 l0 a2).f6)) := (blk_cell BK134.out 6).trans rfl
                    have hfz45_0 := blk_frozen BK134.out 0
                    have hfz45_1 := blk_frozen BK134.out 1
                    have hfz45_2 := blk_frozen BK134.out 2
                    have hfz45_3 := blk_frozen BK134.out 3
                    have hfz45_4 := blk_frozen BK134.out 4
                    have hfz45_5 := blk_frozen BK134.out 5
                    have hfz45_6 := blk_frozen BK134.out 6
                    go_wp2_with (first | ((with_reducible refine gate_callee (f := 12) rfl ?_); refine goesL_ (some 68) rfl rfl Try.func12 (by kernel_rfl) rfl #[.int .i64 ji43, .int .i64 t135] rfl (by (try simp only [List.map_toArray, List.map_cons, List.map_nil]); first | done | (simp only [hji43]; rfl) | rfl | (simp only [List.length_drop, List.length_take]; rfl)) ?_; (with_reducible refine (pacelineref01_Add.calls ji43 t135 t142 _ A44.out).mono ?_); rintro e w' ⟨rfl, ⟨nd, rfl⟩⟩; refine ⟨_, rfl, ?_⟩))
                    go_ret
                    exact ⟨by first | rfl | (simp [errW_none, errW_some] <;> rfl) | (simp only [← hji42, ← hji43]; first | rfl | (simp [errW_none, errW_some] <;> rfl)) | (simp [*, errW_none, errW_some] <;> rfl), by repeat (first | (with_reducible first | exact HB.out | apply below_alloc | apply pw_below_drewN | apply below_drew1 | refine below_set ?_ GE134.out) | exact HB.out)⟩
      · replace c7 := Bool.eq_false_iff.mpr c7
        subst c7
        have H1 : (some 1125899906842624) = some r := by rw [if_neg (show ¬ (false = true) by decide)] at H; exact H
        clear H
        have H := H1
        clear H1
        obtain rfl := Option.some.inj H
        have p133 : 0 ≤ (a2 : Int) := of_decide_eq_true (by first | (with_reducible assumption) | assumption)
        have q133 : a2 < (l0.length : Int) := of_decide_eq_true (by first | (with_reducible assumption) | assumption)
        obtain ⟨ad133, e133, hx133_0, hx133_1, hx133_2, hx133_3, hx133_4, hx133_5, hx133_6⟩ := at_T50 HR0.out a2 p133 q133
        (try rw [← Nbq6.out] at hx133_0)
        (try rw [← Nbq6.out] at hx133_1)
        cases e133
        replace p133 := eq_true p133
        replace q133 := eq_true q133
        go_enter Try.func20, Try.ntmps20
        go_wp2_with (first | ((with_reducible refine gate_dst (N := 7) rfl ?_); refine box_event ?hg (N := 7) ?hd (cs := #[.bool false, .bool false, .int .i64 0, .int .i64 0, .int .i64 0, .int .i64 0, .int .i64 0]) (t := 50) ?hr ?_; (case hd => rfl); (case hg => rfl); (case hr => first | (go_simp; done) | (go_simp; rfl)); intro gb134 hg w46 hbox hb; have n0_ := Aside0.mk (below_step (by repeat (first | (with_reducible first | exact HB.out | apply below_alloc | apply pw_below_drewN | apply below_drew1) | exact HB.out)) hb); have n1_ := Aside0.mk (hbox); have n2_ := Aside0.mk ((by rw [hg]; exact (below_size (by repeat (first | (with_reducible first | exact HB.out | apply below_alloc | apply pw_below_drewN | apply below_drew1) | exact HB.out))) : w.heap.size ≤ gb134)); have n3_ := Aside0.mk ((by rw [hg]; exact (below_size (by repeat (first | (with_reducible first | exact HB.out | apply below_alloc | apply pw_below_drewN | apply below_drew1) | exact HB.out))) : w.heap.size ≤ gb134)); clear HB; have HB := n0_; have BK134 := n1_; have GW134 := n2_; have GE134 := n3_; clear n0_ n1_ n2_ n3_; clear hb hbox hg; have hcz47_0 : w46.cell? ⟨gb134, 0, none⟩ = some (.bool false) := (blk_cell BK134.out 0).trans rfl; have hcz47_1 : w46.cell? ⟨gb134, 1, none⟩ = some (.bool false) := (blk_cell BK134.out 1).trans rfl; have hcz47_2 : w46.cell? ⟨gb134, 2, none⟩ = some (.int .i64 0) := (blk_cell BK134.out 2).trans rfl; have hcz47_3 : w46.cell? ⟨gb134, 3, none⟩ = some (.int .i64 0) := (blk_cell BK134.out 3).trans rfl; have hcz47_4 : w46.cell? ⟨gb134, 4, none⟩ = some (.int .i64 0) := (blk_cell BK134.out 4).trans rfl; have hcz47_5 : w46.cell? ⟨gb134, 5, none⟩ = some (.int .i64 0) := (blk_cell BK134.out 5).trans rfl; have hcz47_6 : w46.cell? ⟨gb134, 6, none⟩ = some (.int .i64 0) := (blk_cell BK134.out 6).trans rfl; have hfz47_0 := blk_frozen BK134.out 0; have hfz47_1 := blk_frozen BK134.out 1; have hfz47_2 := blk_frozen BK134.out 2; have hfz47_3 := blk_frozen BK134.out 3; have hfz47_4 := blk_frozen BK134.out 4; have hfz47_5 := blk_frozen BK134.out 5; have hfz47_6 := blk_frozen BK134.out 6))
        go_ret
        exact ⟨by first | rfl | (simp [errW_none, errW_some] <;> rfl) | (simp [*, errW_none, errW_some] <;> rfl), by repeat (first | (with_reducible first | exact HB.out | apply below_alloc | apply pw_below_drewN | apply below_drew1 | refine below_set ?_ GE134.out) | exact HB.out)⟩
    · rw [if_neg c5] at H
      exact absurd H (by simp)
  · rw [if_neg c4] at H
    exact absurd H (by simp)

end Go.Proofs.Yteomcpdfbaglaaa.PLbtsLater
