-- Written by gp.py (this project's driver over the kit's print) out of the translation and wip/given; Lean checks it.
import Derived.Test.YtdlagficilbbbaaPConfigKeysx0
import Derived.Test.YtdlagficilbbbaaPConfigKeysx1
import Derived.Test.YtdlagficilbbbaaPConfigKeysx3
import Derived.Test.YtdlagficilbbbaaPConfigKeysx5
import Derived.Test.YtdlagficilbbbaaPConfigKeysx11
import Derived.Test.YtdlagficilbbbaaPConfigKeysx12
import Derived.Test.YtdlagficilbbbaaPConfigKeysx14
namespace Go.Proofs.Ytdlagficilbbbaa.PConfigKeys
open Go.RowKit Go.Proofs.YtdlagficilbbbaaR Go.Proofs.YtdlagficilbbbaaW.PrintWords Go.Proofs.YtdlagficilbbbaaW.PrintLast Go.Proofs.YtdlagficilbbbaaW.PrintMore
attribute [local go_sem] max2_int min2_int max_two min_two max_three min_three max_four min_four   -- for this text's walks alone
set_option linter.unusedVariables false
set_option linter.unusedSimpArgs false

attribute [local go_sem high] eqA46
/-! ### pacelinelaw08_ConfigKeys: function 6 -/
mutual
def pacelinelaw08_ConfigKeys.j0 : Nat → Int → Bool → List Int → List (S42) → Int → Option (Bool)
 | 0, _, _, _, _, _ => none
 | k + 1, x4, x29, x243000, x243001, x243002 => if x29 = true then (some false) else (if x4 = 0 then ((config_Starts.f k x243000 x243001 x243002).bind fun t250 => (pacelinelaw08_ConfigKeys.l0 k t250 0 x243000 x243001 x243002)) else (some true))
def pacelinelaw08_ConfigKeys.l0 : Nat → List (S48) → Int → List Int → List (S42) → Int → Option (Bool)
 | 0, _, _, _, _, _ => none
 | k + 1, x7, x8, x243000, x243001, x243002 => if x8 < (x7.length : Int) then (pacelinelaw08_ConfigKeys.l1 k x7 x8 0 x243000 x243001 x243002) else ((pacelineref08_Starts.f k x243000 x243001 x243002).bind fun t253 => ((pacelinelaw08_same.f k x7 t253).bind fun t256 => (some t256)))
def pacelinelaw08_ConfigKeys.l1 : Nat → List (S48) → Int → Int → List Int → List (S42) → Int → Option (Bool)
 | 0, _, _, _, _, _, _ => none
 | k + 1, x7, x8, x9, x243000, x243001, x243002 => if x9 < x8 then (if 0 ≤ x8 then (if x8 < (x7.length : Int) then (if 0 ≤ x9 then (if x9 < (x7.length : Int) then (if (((rd_T48 x7 x8).f0.f0) == ((rd_T48 x7 x9).f0.f0) && (((rd_T48 x7 x8).f0.f1) == ((rd_T48 x7 x9).f0.f1) && (((rd_T48 x7 x8).f0.f2) == ((rd_T48 x7 x9).f0.f2)))) = true then (if ((rd_T48 x7 x8).f1) = ((rd_T48 x7 x9).f1) then (some false) else (pacelinelaw08_ConfigKeys.l1 k x7 x8 (wrap64 (x9 + 1)) x243000 x243001 x243002)) else (pacelinelaw08_ConfigKeys.l1 k x7 x8 (wrap64 (x9 + 1)) x243000 x243001 x243002)) else (none)) else (none)) else (none)) else (none)) else (pacelinelaw08_ConfigKeys.l0 k x7 (wrap64 (x8 + 1)) x243000 x243001 x243002)
end
def pacelinelaw08_ConfigKeys.f (k : Nat) (l0_0 : List Int) (l0_1 : List (S42)) (a0_2 : Int) : Option (Bool) := (pacelinelaw08_heavy.f k l0_0 l0_1 a0_2).bind fun t243 => (if t243 = true then ((pacelinelaw08_shown.f).bind fun t244 => (some t244)) else ((config_Check.f l0_0 l0_1 a0_2).bind fun bt245 => ((pacelineref08_Check.f k l0_0 l0_1 a0_2).bind fun bt247 => (if bt245.2 = bt247.2 then ((pacelinelaw08_shown.f).bind fun t249 => (pacelinelaw08_ConfigKeys.j0 k bt245.2 (!t249) l0_0 l0_1 a0_2)) else (pacelinelaw08_ConfigKeys.j0 k bt245.2 true l0_0 l0_1 a0_2)))))
theorem pacelinelaw08_ConfigKeys.mono_l : ∀ k, (∀ y0 y1 y2 y3 y4, LeO (pacelinelaw08_ConfigKeys.j0 k y0 y1 y2 y3 y4) (pacelinelaw08_ConfigKeys.j0 (k + 1) y0 y1 y2 y3 y4)) ∧ (∀ y0 y1 y2 y3 y4, LeO (pacelinelaw08_ConfigKeys.l0 k y0 y1 y2 y3 y4) (pacelinelaw08_ConfigKeys.l0 (k + 1) y0 y1 y2 y3 y4)) ∧ (∀ y0 y1 y2 y3 y4 y5, LeO (pacelinelaw08_ConfigKeys.l1 k y0 y1 y2 y3 y4 y5) (pacelinelaw08_ConfigKeys.l1 (k + 1) y0 y1 y2 y3 y4 y5))
 | 0 => ⟨fun _ _ _ _ _ r h => by simp [pacelinelaw08_ConfigKeys.j0] at h, fun _ _ _ _ _ r h => by simp [pacelinelaw08_ConfigKeys.l0] at h, fun _ _ _ _ _ _ r h => by simp [pacelinelaw08_ConfigKeys.l1] at h⟩
 | k + 1 => by
  obtain ⟨ih0, ih1, ih2⟩ := pacelinelaw08_ConfigKeys.mono_l k
  refine ⟨?_, ?_, ?_⟩
  ·intro y0 y1 y2 y3 y4
   unfold pacelinelaw08_ConfigKeys.j0
   repeat' first
   | (with_reducible exact ih0 _ _ _ _ _)
   | (with_reducible exact ih1 _ _ _ _ _)
   | (with_reducible exact ih2 _ _ _ _ _ _)
   | (with_reducible exact config_Starts.mono _ _ _ _)
   | (with_reducible exact pacelinelaw08_heavy.mono _ _ _ _)
   | (with_reducible exact pacelinelaw08_same.mono _ _ _)
   | (with_reducible exact pacelineref08_Check.mono _ _ _ _)
   | (with_reducible exact pacelineref08_Starts.mono _ _ _ _)
   | (with_reducible exact LeO.refl _)
   | (with_reducible exact LeO.none _)
   | (with_reducible refine LeO.ite ?_ ?_)
   | (with_reducible refine LeO.bind ?_ (fun _ => ?_))
   | exact ih0 _ _ _ _ _
   | exact ih1 _ _ _ _ _
   | exact ih2 _ _ _ _ _ _
   | exact config_Starts.mono _ _ _ _
   | exact pacelinelaw08_heavy.mono _ _ _ _
   | exact pacelinelaw08_same.mono _ _ _
   | exact pacelineref08_Check.mono _ _ _ _
   | exact pacelineref08_Starts.mono _ _ _ _
   | exact LeO.none _
   | refine LeO.ite ?_ ?_
   | refine LeO.bind ?_ (fun _ => ?_)
  ·intro y0 y1 y2 y3 y4
   unfold pacelinelaw08_ConfigKeys.l0
   repeat' first
   | (with_reducible exact ih0 _ _ _ _ _)
   | (with_reducible exact ih1 _ _ _ _ _)
   | (with_reducible exact ih2 _ _ _ _ _ _)
   | (with_reducible exact config_Starts.mono _ _ _ _)
   | (with_reducible exact pacelinelaw08_heavy.mono _ _ _ _)
   | (with_reducible exact pacelinelaw08_same.mono _ _ _)
   | (with_reducible exact pacelineref08_Check.mono _ _ _ _)
   | (with_reducible exact pacelineref08_Starts.mono _ _ _ _)
   | (with_reducible exact LeO.refl _)
   | (with_reducible exact LeO.none _)
   | (with_reducible refine LeO.ite ?_ ?_)
   | (with_reducible refine LeO.bind ?_ (fun _ => ?_))
   | exact ih0 _ _ _ _ _
   | exact ih1 _ _ _ _ _
   | exact ih2 _ _ _ _ _ _
   | exact config_Starts.mono _ _ _ _
   | exact pacelinelaw08_heavy.mono _ _ _ _
   | exact pacelinelaw08_same.mono _ _ _
   | exact pacelineref08_Check.mono _ _ _ _
   | exact pacelineref08_Starts.mono _ _ _ _
   | exact LeO.none _
   | refine LeO.ite ?_ ?_
   | refine LeO.bind ?_ (fun _ => ?_)
  ·intro y0 y1 y2 y3 y4 y5
   unfold pacelinelaw08_ConfigKeys.l1
   repeat' first
   | (with_reducible exact ih0 _ _ _ _ _)
   | (with_reducible exact ih1 _ _ _ _ _)
   | (with_reducible exact ih2 _ _ _ _ _ _)
   | (with_reducible exact config_Starts.mono _ _ _ _)
   | (with_reducible exact pacelinelaw08_heavy.mono _ _ _ _)
   | (with_reducible exact pacelinelaw08_same.mono _ _ _)
   | (with_reducible exact pacelineref08_Check.mono _ _ _ _)
   | (with_reducible exact pacelineref08_Starts.mono _ _ _ _)
   | (with_reducible exact LeO.refl _)
   | (with_reducible exact LeO.none _)
   | (with_reducible refine LeO.ite ?_ ?_)
   | (with_reducible refine LeO.bind ?_ (fun _ => ?_))
   | exact ih0 _ _ _ _ _
   | exact ih1 _ _ _ _ _
   | exact ih2 _ _ _ _ _ _
   | exact config_Starts.mono _ _ _ _
   | exact pacelinelaw08_heavy.mono _ _ _ _
   | exact pacelinelaw08_same.mono _ _ _
   | exact pacelineref08_Check.mono _ _ _ _
   | exact pacelineref08_Starts.mono _ _ _ _
   | exact LeO.none _
   | refine LeO.ite ?_ ?_
   | refine LeO.bind ?_ (fun _ => ?_)
theorem pacelinelaw08_ConfigKeys.mono : ∀ a0 a1 a2 k, LeO (pacelinelaw08_ConfigKeys.f k a0 a1 a2) (pacelinelaw08_ConfigKeys.f (k + 1) a0 a1 a2) := by
 intro a0 a1 a2 k
 obtain ⟨ih0, ih1, ih2⟩ := pacelinelaw08_ConfigKeys.mono_l k
 unfold pacelinelaw08_ConfigKeys.f
 repeat' first
   | (with_reducible exact ih0 _ _ _ _ _)
   | (with_reducible exact ih1 _ _ _ _ _)
   | (with_reducible exact ih2 _ _ _ _ _ _)
   | (with_reducible exact config_Starts.mono _ _ _ _)
   | (with_reducible exact pacelinelaw08_heavy.mono _ _ _ _)
   | (with_reducible exact pacelinelaw08_same.mono _ _ _)
   | (with_reducible exact pacelineref08_Check.mono _ _ _ _)
   | (with_reducible exact pacelineref08_Starts.mono _ _ _ _)
   | (with_reducible exact LeO.refl _)
   | (with_reducible exact LeO.none _)
   | (with_reducible refine LeO.ite ?_ ?_)
   | (with_reducible refine LeO.bind ?_ (fun _ => ?_))
   | exact ih0 _ _ _ _ _
   | exact ih1 _ _ _ _ _
   | exact ih2 _ _ _ _ _ _
   | exact config_Starts.mono _ _ _ _
   | exact pacelinelaw08_heavy.mono _ _ _ _
   | exact pacelinelaw08_same.mono _ _ _
   | exact pacelineref08_Check.mono _ _ _ _
   | exact pacelineref08_Starts.mono _ _ _ _
   | exact LeO.none _
   | refine LeO.ite ?_ ?_
   | refine LeO.bind ?_ (fun _ => ?_)
set_option maxHeartbeats 8000000 in
set_option maxRecDepth 100000 in
theorem pacelinelaw08_ConfigKeys.calls (k : Nat) (A0_0 : Option Addr) (c0_0 : Nat) (l0_0 : List Int) (A0_1 : Option Addr) (c0_1 : Nat) (l0_1 : List (S42)) (a0_2 : Int) (r : Bool) (w : World) (hr0_0 : Kd.C (Kd.int .i64) w A0_0 l0_0.length l0_0) (hc0_0 : l0_0.length ≤ c0_0) (hr0_1 : Kd.C k42 w A0_1 l0_1.length l0_1) (hc0_1 : l0_1.length ≤ c0_1) (h : pacelinelaw08_ConfigKeys.f k l0_0 l0_1 a0_2 = some r) :
  Calls Try.prog 6 #[.agg #[.slice A0_0 l0_0.length c0_0, .slice A0_1 l0_1.length c0_1, .int .i64 a0_2]] w fun e w' => e = .returned (.bool r) ∧ Below w.heap.size w w' := by
 have hu25 := Try.underlying25
 have hu46 := Try.underlying46
 have HR0_0 := Aside0.mk hr0_0
 have HC0_0 := Aside0.mk hc0_0
 clear hr0_0 hc0_0
 have HR0_1 := Aside0.mk hr0_1
 have HC0_1 := Aside0.mk hc0_1
 clear hr0_1 hc0_1
 have HB := Aside0.mk (Below.refl w.heap.size w)
 have H : ((pacelinelaw08_heavy.f k l0_0 l0_1 a0_2).bind fun t243 => (if t243 = true then ((pacelinelaw08_shown.f).bind fun t244 => (some t244)) else ((config_Check.f l0_0 l0_1 a0_2).bind fun bt245 => ((pacelineref08_Check.f k l0_0 l0_1 a0_2).bind fun bt247 => (if bt245.2 = bt247.2 then ((pacelinelaw08_shown.f).bind fun t249 => (pacelinelaw08_ConfigKeys.j0 k bt245.2 (!t249) l0_0 l0_1 a0_2)) else (pacelinelaw08_ConfigKeys.j0 k bt245.2 true l0_0 l0_1 a0_2)))))) = some r := h
 clear h
 replace H := Option.bind_eq_some_iff.mp H
 obtain ⟨t243, A20, H⟩ := H
 replace H : (if t243 = true then ((pacelinelaw08_shown.f).bind fun t244 => (some t244)) else ((config_Check.f l0_0 l0_1 a0_2).bind fun bt245 => ((pacelineref08_Check.f k l0_0 l0_1 a0_2).bind fun bt247 => (if bt245.2 = bt247.2 then ((pacelinelaw08_shown.f).bind fun t249 => (pacelinelaw08_ConfigKeys.j0 k bt245.2 (!t249) l0_0 l0_1 a0_2)) else (pacelinelaw08_ConfigKeys.j0 k bt245.2 true l0_0 l0_1 a0_2))))) = some r := H
 have A2 := Aside0.mk A20
 clear A20
 by_cases c3 : t243 = true
 ·subst c3
  have H1 : ((pacelinelaw08_shown.f).bind fun t244 => (some t244)) = some r := by rw [if_pos rfl] at H; exact H
  clear H
  have H := H1
  clear H1
  replace H := Option.bind_eq_some_iff.mp H
  obtain ⟨t244, A40, H⟩ := H
  replace H : (some t244) = some r := H
  have A4 := Aside0.mk A40
  clear A40
  obtain rfl := Option.some.inj H
  go_enter Try.func6, Try.ntmps6
  go_wp2_with (first | ((with_reducible refine gate_dst (N := 1) rfl ?_); refine box_event ?hg (N := 1) ?hd (cs := #[.slice A0_0 l0_0.length c0_0, .slice A0_1 l0_1.length c0_1, .int .i64 a0_2]) (t := 25) ?hr ?_; (case hd => rfl); (case hg => rfl); (case hr => first | (go_simp; done) | (go_simp; rfl)); intro gb242 hg w5 hbox hb; have n0_ := Aside0.mk (below_step (by repeat (first | (with_reducible first | exact HB.out | apply below_alloc | apply pw_below_drewN | apply below_drew1) | exact HB.out)) hb); have n1_ := Aside0.mk (hbox); have n2_ := Aside0.mk ((by rw [hg]; exact (below_size (by repeat (first | (with_reducible first | exact HB.out | apply below_alloc | apply pw_below_drewN | apply below_drew1) | exact HB.out))) : w.heap.size ≤ gb242)); have n3_ := Aside0.mk ((by rw [hg]; exact (below_size (by repeat (first | (with_reducible first | exact HB.out | apply below_alloc | apply pw_below_drewN | apply below_drew1) | exact HB.out))) : w.heap.size ≤ gb242)); clear HB; have HB := n0_; have BK242 := n1_; have GW242 := n2_; have GE242 := n3_; clear n0_ n1_ n2_ n3_; clear hb hbox hg; have hcz6_0 : w5.cell? ⟨gb242, 0, none⟩ = some (.slice A0_0 l0_0.length c0_0) := (blk_cell BK242.out 0).trans rfl; have hcz6_1 : w5.cell? ⟨gb242, 1, none⟩ = some (.slice A0_1 l0_1.length c0_1) := (blk_cell BK242.out 1).trans rfl; have hcz6_2 : w5.cell? ⟨gb242, 2, none⟩ = some (.int .i64 a0_2) := (blk_cell BK242.out 2).trans rfl; have hfz6_0 := blk_frozen BK242.out 0; have hfz6_1 := blk_frozen BK242.out 1; have hfz6_2 := blk_frozen BK242.out 2) | (go_at_call 9; (with_reducible refine (pacelinelaw08_heavy.calls k _ _ l0_0 _ _ l0_1 a0_2 true _ ?side1 ?side2 ?side3 ?side4 A2.out).mono ?_); (case side1 => repeat (first | exact (Kd.C_below HR0_0.out HB.out) | (with_reducible refine Kd.C_alloc ?_ _) | (with_reducible refine Kd.C_drewN ?_ _) | (with_reducible refine Kd.C_drew ?_))); (case side2 => exact HC0_0.out); (case side3 => repeat (first | exact (Kd.C_below HR0_1.out HB.out) | (with_reducible refine Kd.C_alloc ?_ _) | (with_reducible refine Kd.C_drewN ?_ _) | (with_reducible refine Kd.C_drew ?_))); (case side4 => exact HC0_1.out); rintro e w7 ⟨rfl, hb⟩; have n0_ := Aside0.mk (blk_below (g := gb242) (o := .cells #[.slice A0_0 l0_0.length c0_0, .slice A0_1 l0_1.length c0_1, .int .i64 a0_2] 25 (0, 0)) (by (with_reducible repeat (first | refine blk_drewN ?_ _ | refine blk_drew ?_ | refine blk_alloc ?_ _)); exact BK242.out) hb); have n1_ := Aside0.mk (below_step (by repeat (first | (with_reducible first | exact HB.out | apply below_alloc | apply pw_below_drewN | apply below_drew1 | refine below_set ?_ GE242.out) | exact HB.out)) hb); clear BK242; clear HB; have BK242 := n0_; have HB := n1_; clear n0_ n1_; (try clear hb); (try clear hb2); (try clear hk); (try clear hi)) | (go_at_call 12; (with_reducible refine (pacelinelaw08_shown.calls  t244 _ A4.out).mono ?_); rintro e w8 ⟨rfl, hb⟩; have n0_ := Aside0.mk (blk_below (g := gb242) (o := .cells #[.slice A0_0 l0_0.length c0_0, .slice A0_1 l0_1.length c0_1, .int .i64 a0_2] 25 (0, 0)) (by (with_reducible repeat (first | refine blk_drewN ?_ _ | refine blk_drew ?_ | refine blk_alloc ?_ _)); exact BK242.out) hb); have n1_ := Aside0.mk (below_step (by repeat (first | (with_reducible first | exact HB.out | apply below_alloc | apply pw_below_drewN | apply below_drew1 | refine below_set ?_ GE242.out) | exact HB.out)) hb); clear BK242; clear HB; have BK242 := n0_; have HB := n1_; clear n0_ n1_; (try clear hb); (try clear hb2); (try clear hk); (try clear hi)))
  repeat (go_quiet (first | ((with_reducible refine gate_dst (N := 1) rfl ?_); refine box_event ?hg (N := 1) ?hd (cs := #[.slice A0_0 l0_0.length c0_0, .slice A0_1 l0_1.length c0_1, .int .i64 a0_2]) (t := 25) ?hr ?_; (case hd => rfl); (case hg => rfl); (case hr => first | (go_simp; done) | (go_simp; rfl)); intro gb242 hg w5 hbox hb; have n0_ := Aside0.mk (below_step (by repeat (first | (with_reducible first | exact HB.out | apply below_alloc | apply pw_below_drewN | apply below_drew1) | exact HB.out)) hb); have n1_ := Aside0.mk (hbox); have n2_ := Aside0.mk ((by rw [hg]; exact (below_size (by repeat (first | (with_reducible first | exact HB.out | apply below_alloc | apply pw_below_drewN | apply below_drew1) | exact HB.out))) : w.heap.size ≤ gb242)); have n3_ := Aside0.mk ((by rw [hg]; exact (below_size (by repeat (first | (with_reducible first | exact HB.out | apply below_alloc | apply pw_below_drewN | apply below_drew1) | exact HB.out))) : w.heap.size ≤ gb242)); clear HB; have HB := n0_; have BK242 := n1_; have GW242 := n2_; have GE242 := n3_; clear n0_ n1_ n2_ n3_; clear hb hbox hg; have hcz6_0 : w5.cell? ⟨gb242, 0, none⟩ = some (.slice A0_0 l0_0.length c0_0) := (blk_cell BK242.out 0).trans rfl; have hcz6_1 : w5.cell? ⟨gb242, 1, none⟩ = some (.slice A0_1 l0_1.length c0_1) := (blk_cell BK242.out 1).trans rfl; have hcz6_2 : w5.cell? ⟨gb242, 2, none⟩ = some (.int .i64 a0_2) := (blk_cell BK242.out 2).trans rfl; have hfz6_0 := blk_frozen BK242.out 0; have hfz6_1 := blk_frozen BK242.out 1; have hfz6_2 := blk_frozen BK242.out 2) | (go_at_call 9; (with_reducible refine (pacelinelaw08_heavy.calls k _ _ l0_0 _ _ l0_1 a0_2 true _ ?side1 ?side2 ?side3 ?side4 A2.out).mono ?_); (case side1 => repeat (first | exact (Kd.C_below HR0_0.out HB.out) | (with_reducible refine Kd.C_alloc ?_ _) | (with_reducible refine Kd.C_drewN ?_ _) | (with_reducible refine Kd.C_drew ?_))); (case side2 => exact HC0_0.out); (case side3 => repeat (first | exact (Kd.C_below HR0_1.out HB.out) | (with_reducible refine Kd.C_alloc ?_ _) | (with_reducible refine Kd.C_drewN ?_ _) | (with_reducible refine Kd.C_drew ?_))); (case side4 => exact HC0_1.out); rintro e w7 ⟨rfl, hb⟩; have n0_ := Aside0.mk (blk_below (g := gb242) (o := .cells #[.slice A0_0 l0_0.length c0_0, .slice A0_1 l0_1.length c0_1, .int .i64 a0_2] 25 (0, 0)) (by (with_reducible repeat (first | refine blk_drewN ?_ _ | refine blk_drew ?_ | refine blk_alloc ?_ _)); exact BK242.out) hb); have n1_ := Aside0.mk (below_step (by repeat (first | (with_reducible first | exact HB.out | apply below_alloc | apply pw_below_drewN | apply below_drew1 | refine below_set ?_ GE242.out) | exact HB.out)) hb); clear BK242; clear HB; have BK242 := n0_; have HB := n1_; clear n0_ n1_; (try clear hb); (try clear hb2); (try clear hk); (try clear hi)) | (go_at_call 12; (with_reducible refine (pacelinelaw08_shown.calls  t244 _ A4.out).mono ?_); rintro e w8 ⟨rfl, hb⟩; have n0_ := Aside0.mk (blk_below (g := gb242) (o := .cells #[.slice A0_0 l0_0.length c0_0, .slice A0_1 l0_1.length c0_1, .int .i64 a0_2] 25 (0, 0)) (by (with_reducible repeat (first | refine blk_drewN ?_ _ | refine blk_drew ?_ | refine blk_alloc ?_ _)); exact BK242.out) hb); have n1_ := Aside0.mk (below_step (by repeat (first | (with_reducible first | exact HB.out | apply below_alloc | apply pw_below_drewN | apply below_drew1 | refine below_set ?_ GE242.out) | exact HB.out)) hb); clear BK242; clear HB; have BK242 := n0_; have HB := n1_; clear n0_ n1_; (try clear hb); (try clear hb2); (try clear hk); (try clear hi))); try go_wp2_with (first | ((with_reducible refine gate_dst (N := 1) rfl ?_); refine box_event ?hg (N := 1) ?hd (cs := #[.slice A0_0 l0_0.length c0_0, .slice A0_1 l0_1.length c0_1, .int .i64 a0_2]) (t := 25) ?hr ?_; (case hd => rfl); (case hg => rfl); (case hr => first | (go_simp; done) | (go_simp; rfl)); intro gb242 hg w5 hbox hb; have n0_ := Aside0.mk (below_step (by repeat (first | (with_reducible first | exact HB.out | apply below_alloc | apply pw_below_drewN | apply below_drew1) | exact HB.out)) hb); have n1_ := Aside0.mk (hbox); have n2_ := Aside0.mk ((by rw [hg]; exact (below_size (by repeat (first | (with_reducible first | exact HB.out | apply below_alloc | apply pw_below_drewN | apply below_drew1) | exact HB.out))) : w.heap.size ≤ gb242)); have n3_ := Aside0.mk ((by rw [hg]; exact (below_size (by repeat (first | (with_reducible first | exact HB.out | apply below_alloc | apply pw_below_drewN | apply below_drew1) | exact HB.out))) : w.heap.size ≤ gb242)); clear HB; have HB := n0_; have BK242 := n1_; have GW242 := n2_; have GE242 := n3_; clear n0_ n1_ n2_ n3_; clear hb hbox hg; have hcz6_0 : w5.cell? ⟨gb242, 0, none⟩ = some (.slice A0_0 l0_0.length c0_0) := (blk_cell BK242.out 0).trans rfl; have hcz6_1 : w5.cell? ⟨gb242, 1, none⟩ = some (.slice A0_1 l0_1.length c0_1) := (blk_cell BK242.out 1).trans rfl; have hcz6_2 : w5.cell? ⟨gb242, 2, none⟩ = some (.int .i64 a0_2) := (blk_cell BK242.out 2).trans rfl; have hfz6_0 := blk_frozen BK242.out 0; have hfz6_1 := blk_frozen BK242.out 1; have hfz6_2 := blk_frozen BK242.out 2) | (go_at_call 9; (with_reducible refine (pacelinelaw08_heavy.calls k _ _ l0_0 _ _ l0_1 a0_2 true _ ?side1 ?side2 ?side3 ?side4 A2.out).mono ?_); (case side1 => repeat (first | exact (Kd.C_below HR0_0.out HB.out) | (with_reducible refine Kd.C_alloc ?_ _) | (with_reducible refine Kd.C_drewN ?_ _) | (with_reducible refine Kd.C_drew ?_))); (case side2 => exact HC0_0.out); (case side3 => repeat (first | exact (Kd.C_below HR0_1.out HB.out) | (with_reducible refine Kd.C_alloc ?_ _) | (with_reducible refine Kd.C_drewN ?_ _) | (with_reducible refine Kd.C_drew ?_))); (case side4 => exact HC0_1.out); rintro e w7 ⟨rfl, hb⟩; have n0_ := Aside0.mk (blk_below (g := gb242) (o := .cells #[.slice A0_0 l0_0.length c0_0, .slice A0_1 l0_1.length c0_1, .int .i64 a0_2] 25 (0, 0)) (by (with_reducible repeat (first | refine blk_drewN ?_ _ | refine blk_drew ?_ | refine blk_alloc ?_ _)); exact BK242.out) hb); have n1_ := Aside0.mk (below_step (by repeat (first | (with_reducible first | exact HB.out | apply below_alloc | apply pw_below_drewN | apply below_drew1 | refine below_set ?_ GE242.out) | exact HB.out)) hb); clear BK242; clear HB; have BK242 := n0_; have HB := n1_; clear n0_ n1_; (try clear hb); (try clear hb2); (try clear hk); (try clear hi)) | (go_at_call 12; (with_reducible refine (pacelinelaw08_shown.calls  t244 _ A4.out).mono ?_); rintro e w8 ⟨rfl, hb⟩; have n0_ := Aside0.mk (blk_below (g := gb242) (o := .cells #[.slice A0_0 l0_0.length c0_0, .slice A0_1 l0_1.length c0_1, .int .i64 a0_2] 25 (0, 0)) (by (with_reducible repeat (first | refine blk_drewN ?_ _ | refine blk_drew ?_ | refine blk_alloc ?_ _)); exact BK242.out) hb); have n1_ := Aside0.mk (below_step (by repeat (first | (with_reducible first | exact HB.out | apply below_alloc | apply pw_below_drewN | apply below_drew1 | refine below_set ?_ GE242.out) | exact HB.out)) hb); clear BK242; clear HB; have BK242 := n0_; have HB := n1_; clear n0_ n1_; (try clear hb); (try clear hb2); (try clear hk); (try clear hi))))
  go_ret
  exact ⟨by first | rfl | (simp [errW_none, errW_some] <;> rfl) | (simp [*, errW_none, errW_some] <;> rfl), by repeat (first | (with_reducible first | exact HB.out | apply below_alloc | apply pw_below_drewN | apply below_drew1 | refine below_set ?_ GE242.out) | exact HB.out)⟩
 ·replace c3 := Bool.eq_false_iff.mpr c3
  subst c3
  have H1 : ((config_Check.f l0_0 l0_1 a0_2).bind fun bt245 => ((pacelineref08_Check.f k l0_0 l0_1 a0_2).bind fun bt247 => (if bt245.2 = bt247.2 then ((pacelinelaw08_shown.f).bind fun t249 => (pacelinelaw08_ConfigKeys.j0 k bt245.2 (!t249) l0_0 l0_1 a0_2)) else (pacelinelaw08_ConfigKeys.j0 k bt245.2 true l0_0 l0_1 a0_2)))) = some r := by rw [if_neg (show ¬ (false = true) by decide)] at H; exact H
  clear H
  have H := H1
  clear H1
  replace H := Option.bind_eq_some_iff.mp H
  obtain ⟨⟨t245, t246⟩, A90, H⟩ := H
  replace H : ((pacelineref08_Check.f k l0_0 l0_1 a0_2).bind fun bt247 => (if t246 = bt247.2 then ((pacelinelaw08_shown.f).bind fun t249 => (pacelinelaw08_ConfigKeys.j0 k t246 (!t249) l0_0 l0_1 a0_2)) else (pacelinelaw08_ConfigKeys.j0 k t246 true l0_0 l0_1 a0_2))) = some r := H
  have A9 := Aside0.mk A90
  clear A90
  replace H := Option.bind_eq_some_iff.mp H
  obtain ⟨⟨t247, t248⟩, A100, H⟩ := H
  replace H : (if t246 = t248 then ((pacelinelaw08_shown.f).bind fun t249 => (pacelinelaw08_ConfigKeys.j0 k t246 (!t249) l0_0 l0_1 a0_2)) else (pacelinelaw08_ConfigKeys.j0 k t246 true l0_0 l0_1 a0_2)) = some r := H
  have A10 := Aside0.mk A100
  clear A100
  have HC11 := Aside0.mk H
  clear H
  go_enter Try.func6, Try.ntmps6
  go_upto_region 5 with (first | ((with_reducible refine gate_dst (N := 1) rfl ?_); refine box_event ?hg (N := 1) ?hd (cs := #[.slice A0_0 l0_0.length c0_0, .slice A0_1 l0_1.length c0_1, .int .i64 a0_2]) (t := 25) ?hr ?_; (case hd => rfl); (case hg => rfl); (case hr => first | (go_simp; done) | (go_simp; rfl)); intro gb242 hg w12 hbox hb; have n0_ := Aside0.mk (below_step (by repeat (first | (with_reducible first | exact HB.out | apply below_alloc | apply pw_below_drewN | apply below_drew1) | exact HB.out)) hb); have n1_ := Aside0.mk (hbox); have n2_ := Aside0.mk ((by rw [hg]; exact (below_size (by repeat (first | (with_reducible first | exact HB.out | apply below_alloc | apply pw_below_drewN | apply below_drew1) | exact HB.out))) : w.heap.size ≤ gb242)); have n3_ := Aside0.mk ((by rw [hg]; exact (below_size (by repeat (first | (with_reducible first | exact HB.out | apply below_alloc | apply pw_below_drewN | apply below_drew1) | exact HB.out))) : w.heap.size ≤ gb242)); clear HB; have HB := n0_; have BK242 := n1_; have GW242 := n2_; have GE242 := n3_; clear n0_ n1_ n2_ n3_; clear hb hbox hg; have hcz13_0 : w12.cell? ⟨gb242, 0, none⟩ = some (.slice A0_0 l0_0.length c0_0) := (blk_cell BK242.out 0).trans rfl; have hcz13_1 : w12.cell? ⟨gb242, 1, none⟩ = some (.slice A0_1 l0_1.length c0_1) := (blk_cell BK242.out 1).trans rfl; have hcz13_2 : w12.cell? ⟨gb242, 2, none⟩ = some (.int .i64 a0_2) := (blk_cell BK242.out 2).trans rfl; have hfz13_0 := blk_frozen BK242.out 0; have hfz13_1 := blk_frozen BK242.out 1; have hfz13_2 := blk_frozen BK242.out 2) | (go_at_call 9; (with_reducible refine (pacelinelaw08_heavy.calls k _ _ l0_0 _ _ l0_1 a0_2 false _ ?side1 ?side2 ?side3 ?side4 A2.out).mono ?_); (case side1 => repeat (first | exact (Kd.C_below HR0_0.out HB.out) | (with_reducible refine Kd.C_alloc ?_ _) | (with_reducible refine Kd.C_drewN ?_ _) | (with_reducible refine Kd.C_drew ?_))); (case side2 => exact HC0_0.out); (case side3 => repeat (first | exact (Kd.C_below HR0_1.out HB.out) | (with_reducible refine Kd.C_alloc ?_ _) | (with_reducible refine Kd.C_drewN ?_ _) | (with_reducible refine Kd.C_drew ?_))); (case side4 => exact HC0_1.out); rintro e w14 ⟨rfl, hb⟩; have n0_ := Aside0.mk (blk_below (g := gb242) (o := .cells #[.slice A0_0 l0_0.length c0_0, .slice A0_1 l0_1.length c0_1, .int .i64 a0_2] 25 (0, 0)) (by (with_reducible repeat (first | refine blk_drewN ?_ _ | refine blk_drew ?_ | refine blk_alloc ?_ _)); exact BK242.out) hb); have n1_ := Aside0.mk (below_step (by repeat (first | (with_reducible first | exact HB.out | apply below_alloc | apply pw_below_drewN | apply below_drew1 | refine below_set ?_ GE242.out) | exact HB.out)) hb); clear BK242; clear HB; have BK242 := n0_; have HB := n1_; clear n0_ n1_; (try clear hb); (try clear hb2); (try clear hk); (try clear hi); have hcz15_0 : w14.cell? ⟨gb242, 0, none⟩ = some (.slice A0_0 l0_0.length c0_0) := (blk_cell BK242.out 0).trans rfl; have hcz15_1 : w14.cell? ⟨gb242, 1, none⟩ = some (.slice A0_1 l0_1.length c0_1) := (blk_cell BK242.out 1).trans rfl; have hcz15_2 : w14.cell? ⟨gb242, 2, none⟩ = some (.int .i64 a0_2) := (blk_cell BK242.out 2).trans rfl; have hfz15_0 := blk_frozen BK242.out 0; have hfz15_1 := blk_frozen BK242.out 1; have hfz15_2 := blk_frozen BK242.out 2) | (go_at_call 10; (with_reducible refine (config_Check.calls _ _ l0_0 _ _ l0_1 a0_2 t245 t246 _ ?side1 ?side2 ?side3 ?side4 A9.out).mono ?_); (case side1 => repeat (first | exact (Kd.C_below HR0_0.out HB.out) | (with_reducible refine Kd.C_alloc ?_ _) | (with_reducible refine Kd.C_drewN ?_ _) | (with_reducible refine Kd.C_drew ?_))); (case side2 => exact HC0_0.out); (case side3 => repeat (first | exact (Kd.C_below HR0_1.out HB.out) | (with_reducible refine Kd.C_alloc ?_ _) | (with_reducible refine Kd.C_drewN ?_ _) | (with_reducible refine Kd.C_drew ?_))); (case side4 => exact HC0_1.out); rintro e w16 ⟨rfl, hb⟩; have n0_ := Aside0.mk (blk_below (g := gb242) (o := .cells #[.slice A0_0 l0_0.length c0_0, .slice A0_1 l0_1.length c0_1, .int .i64 a0_2] 25 (0, 0)) (by (with_reducible repeat (first | refine blk_drewN ?_ _ | refine blk_drew ?_ | refine blk_alloc ?_ _)); exact BK242.out) hb); have n1_ := Aside0.mk (below_step (by repeat (first | (with_reducible first | exact HB.out | apply below_alloc | apply pw_below_drewN | apply below_drew1 | refine below_set ?_ GE242.out) | exact HB.out)) hb); clear BK242; clear HB; have BK242 := n0_; have HB := n1_; clear n0_ n1_; (try clear hb); (try clear hb2); (try clear hk); (try clear hi); have hcz17_0 : w16.cell? ⟨gb242, 0, none⟩ = some (.slice A0_0 l0_0.length c0_0) := (blk_cell BK242.out 0).trans rfl; have hcz17_1 : w16.cell? ⟨gb242, 1, none⟩ = some (.slice A0_1 l0_1.length c0_1) := (blk_cell BK242.out 1).trans rfl; have hcz17_2 : w16.cell? ⟨gb242, 2, none⟩ = some (.int .i64 a0_2) := (blk_cell BK242.out 2).trans rfl; have hfz17_0 := blk_frozen BK242.out 0; have hfz17_1 := blk_frozen BK242.out 1; have hfz17_2 := blk_frozen BK242.out 2) | (go_at_call 11; (with_reducible refine (pacelineref08_Check.calls k _ _ l0_0 _ _ l0_1 a0_2 t247 t248 _ ?side1 ?side2 ?side3 ?side4 A10.out).mono ?_); (case side1 => repeat (first | exact (Kd.C_below HR0_0.out HB.out) | (with_reducible refine Kd.C_alloc ?_ _) | (with_reducible refine Kd.C_drewN ?_ _) | (with_reducible refine Kd.C_drew ?_))); (case side2 => exact HC0_0.out); (case side3 => repeat (first | exact (Kd.C_below HR0_1.out HB.out) | (with_reducible refine Kd.C_alloc ?_ _) | (with_reducible refine Kd.C_drewN ?_ _) | (with_reducible refine Kd.C_drew ?_))); (case side4 => exact HC0_1.out); rintro e w18 ⟨rfl, hb⟩; have n0_ := Aside0.mk (blk_below (g := gb242) (o := .cells #[.slice A0_0 l0_0.length c0_0, .slice A0_1 l0_1.length c0_1, .int .i64 a0_2] 25 (0, 0)) (by (with_reducible repeat (first | refine blk_drewN ?_ _ | refine blk_drew ?_ | refine blk_alloc ?_ _)); exact BK242.out) hb); have n1_ := Aside0.mk (below_step (by repeat (first | (with_reducible first | exact HB.out | apply below_alloc | apply pw_below_drewN | apply below_drew1 | refine below_set ?_ GE242.out) | exact HB.out)) hb); clear BK242; clear HB; have BK242 := n0_; have HB := n1_; clear n0_ n1_; (try clear hb); (try clear hb2); (try clear hk); (try clear hi)))
  repeat (go_quiet (first | ((with_reducible refine gate_dst (N := 1) rfl ?_); refine box_event ?hg (N := 1) ?hd (cs := #[.slice A0_0 l0_0.length c0_0, .slice A0_1 l0_1.length c0_1, .int .i64 a0_2]) (t := 25) ?hr ?_; (case hd => rfl); (case hg => rfl); (case hr => first | (go_simp; done) | (go_simp; rfl)); intro gb242 hg w12 hbox hb; have n0_ := Aside0.mk (below_step (by repeat (first | (with_reducible first | exact HB.out | apply below_alloc | apply pw_below_drewN | apply below_drew1) | exact HB.out)) hb); have n1_ := Aside0.mk (hbox); have n2_ := Aside0.mk ((by rw [hg]; exact (below_size (by repeat (first | (with_reducible first | exact HB.out | apply below_alloc | apply pw_below_drewN | apply below_drew1) | exact HB.out))) : w.heap.size ≤ gb242)); have n3_ := Aside0.mk ((by rw [hg]; exact (below_size (by repeat (first | (with_reducible first | exact HB.out | apply below_alloc | apply pw_below_drewN | apply below_drew1) | exact HB.out))) : w.heap.size ≤ gb242)); clear HB; have HB := n0_; have BK242 := n1_; have GW242 := n2_; have GE242 := n3_; clear n0_ n1_ n2_ n3_; clear hb hbox hg; have hcz13_0 : w12.cell? ⟨gb242, 0, none⟩ = some (.slice A0_0 l0_0.length c0_0) := (blk_cell BK242.out 0).trans rfl; have hcz13_1 : w12.cell? ⟨gb242, 1, none⟩ = some (.slice A0_1 l0_1.length c0_1) := (blk_cell BK242.out 1).trans rfl; have hcz13_2 : w12.cell? ⟨gb242, 2, none⟩ = some (.int .i64 a0_2) := (blk_cell BK242.out 2).trans rfl; have hfz13_0 := blk_frozen BK242.out 0; have hfz13_1 := blk_frozen BK242.out 1; have hfz13_2 := blk_frozen BK242.out 2) | (go_at_call 9; (with_reducible refine (pacelinelaw08_heavy.calls k _ _ l0_0 _ _ l0_1 a0_2 false _ ?side1 ?side2 ?side3 ?side4 A2.out).mono ?_); (case side1 => repeat (first | exact (Kd.C_below HR0_0.out HB.out) | (with_reducible refine Kd.C_alloc ?_ _) | (with_reducible refine Kd.C_drewN ?_ _) | (with_reducible refine Kd.C_drew ?_))); (case side2 => exact HC0_0.out); (case side3 => repeat (first | exact (Kd.C_below HR0_1.out HB.out) | (with_reducible refine Kd.C_alloc ?_ _) | (with_reducible refine Kd.C_drewN ?_ _) | (with_reducible refine Kd.C_drew ?_))); (case side4 => exact HC0_1.out); rintro e w14 ⟨rfl, hb⟩; have n0_ := Aside0.mk (blk_below (g := gb242) (o := .cells #[.slice A0_0 l0_0.length c0_0, .slice A0_1 l0_1.length c0_1, .int .i64 a0_2] 25 (0, 0)) (by (with_reducible repeat (first | refine blk_drewN ?_ _ | refine blk_drew ?_ | refine blk_alloc ?_ _)); exact BK242.out) hb); have n1_ := Aside0.mk (below_step (by repeat (first | (with_reducible first | exact HB.out | apply below_alloc | apply pw_below_drewN | apply below_drew1 | refine below_set ?_ GE242.out) | exact HB.out)) hb); clear BK242; clear HB; have BK242 := n0_; have HB := n1_; clear n0_ n1_; (try clear hb); (try clear hb2); (try clear hk); (try clear hi); have hcz15_0 : w14.cell? ⟨gb242, 0, none⟩ = some (.slice A0_0 l0_0.length c0_0) := (blk_cell BK242.out 0).trans rfl; have hcz15_1 : w14.cell? ⟨gb242, 1, none⟩ = some (.slice A0_1 l0_1.length c0_1) := (blk_cell BK242.out 1).trans rfl; have hcz15_2 : w14.cell? ⟨gb242, 2, none⟩ = some (.int .i64 a0_2) := (blk_cell BK242.out 2).trans rfl; have hfz15_0 := blk_frozen BK242.out 0; have hfz15_1 := blk_frozen BK242.out 1; have hfz15_2 := blk_frozen BK242.out 2) | (go_at_call 10; (with_reducible refine (config_Check.calls _ _ l0_0 _ _ l0_1 a0_2 t245 t246 _ ?side1 ?side2 ?side3 ?side4 A9.out).mono ?_); (case side1 => repeat (first | exact (Kd.C_below HR0_0.out HB.out) | (with_reducible refine Kd.C_alloc ?_ _) | (with_reducible refine Kd.C_drewN ?_ _) | (with_reducible refine Kd.C_drew ?_))); (case side2 => exact HC0_0.out); (case side3 => repeat (first | exact (Kd.C_below HR0_1.out HB.out) | (with_reducible refine Kd.C_alloc ?_ _) | (with_reducible refine Kd.C_drewN ?_ _) | (with_reducible refine Kd.C_drew ?_))); (case side4 => exact HC0_1.out); rintro e w16 ⟨rfl, hb⟩; have n0_ := Aside0.mk (blk_below (g := gb242) (o := .cells #[.slice A0_0 l0_0.length c0_0, .slice A0_1 l0_1.length c0_1, .int .i64 a0_2] 25 (0, 0)) (by (with_reducible repeat (first | refine blk_drewN ?_ _ | refine blk_drew ?_ | refine blk_alloc ?_ _)); exact BK242.out) hb); have n1_ := Aside0.mk (below_step (by repeat (first | (with_reducible first | exact HB.out | apply below_alloc | apply pw_below_drewN | apply below_drew1 | refine below_set ?_ GE242.out) | exact HB.out)) hb); clear BK242; clear HB; have BK242 := n0_; have HB := n1_; clear n0_ n1_; (try clear hb); (try clear hb2); (try clear hk); (try clear hi); have hcz17_0 : w16.cell? ⟨gb242, 0, none⟩ = some (.slice A0_0 l0_0.length c0_0) := (blk_cell BK242.out 0).trans rfl; have hcz17_1 : w16.cell? ⟨gb242, 1, none⟩ = some (.slice A0_1 l0_1.length c0_1) := (blk_cell BK242.out 1).trans rfl; have hcz17_2 : w16.cell? ⟨gb242, 2, none⟩ = some (.int .i64 a0_2) := (blk_cell BK242.out 2).trans rfl; have hfz17_0 := blk_frozen BK242.out 0; have hfz17_1 := blk_frozen BK242.out 1; have hfz17_2 := blk_frozen BK242.out 2) | (go_at_call 11; (with_reducible refine (pacelineref08_Check.calls k _ _ l0_0 _ _ l0_1 a0_2 t247 t248 _ ?side1 ?side2 ?side3 ?side4 A10.out).mono ?_); (case side1 => repeat (first | exact (Kd.C_below HR0_0.out HB.out) | (with_reducible refine Kd.C_alloc ?_ _) | (with_reducible refine Kd.C_drewN ?_ _) | (with_reducible refine Kd.C_drew ?_))); (case side2 => exact HC0_0.out); (case side3 => repeat (first | exact (Kd.C_below HR0_1.out HB.out) | (with_reducible refine Kd.C_alloc ?_ _) | (with_reducible refine Kd.C_drewN ?_ _) | (with_reducible refine Kd.C_drew ?_))); (case side4 => exact HC0_1.out); rintro e w18 ⟨rfl, hb⟩; have n0_ := Aside0.mk (blk_below (g := gb242) (o := .cells #[.slice A0_0 l0_0.length c0_0, .slice A0_1 l0_1.length c0_1, .int .i64 a0_2] 25 (0, 0)) (by (with_reducible repeat (first | refine blk_drewN ?_ _ | refine blk_drew ?_ | refine blk_alloc ?_ _)); exact BK242.out) hb); have n1_ := Aside0.mk (below_step (by repeat (first | (with_reducible first | exact HB.out | apply below_alloc | apply pw_below_drewN | apply below_drew1 | refine below_set ?_ GE242.out) | exact HB.out)) hb); clear BK242; clear HB; have BK242 := n0_; have HB := n1_; clear n0_ n1_; (try clear hb); (try clear hb2); (try clear hk); (try clear hi))); go_upto_region 5 with (first | ((with_reducible refine gate_dst (N := 1) rfl ?_); refine box_event ?hg (N := 1) ?hd (cs := #[.slice A0_0 l0_0.length c0_0, .slice A0_1 l0_1.length c0_1, .int .i64 a0_2]) (t := 25) ?hr ?_; (case hd => rfl); (case hg => rfl); (case hr => first | (go_simp; done) | (go_simp; rfl)); intro gb242 hg w12 hbox hb; have n0_ := Aside0.mk (below_step (by repeat (first | (with_reducible first | exact HB.out | apply below_alloc | apply pw_below_drewN | apply below_drew1) | exact HB.out)) hb); have n1_ := Aside0.mk (hbox); have n2_ := Aside0.mk ((by rw [hg]; exact (below_size (by repeat (first | (with_reducible first | exact HB.out | apply below_alloc | apply pw_below_drewN | apply below_drew1) | exact HB.out))) : w.heap.size ≤ gb242)); have n3_ := Aside0.mk ((by rw [hg]; exact (below_size (by repeat (first | (with_reducible first | exact HB.out | apply below_alloc | apply pw_below_drewN | apply below_drew1) | exact HB.out))) : w.heap.size ≤ gb242)); clear HB; have HB := n0_; have BK242 := n1_; have GW242 := n2_; have GE242 := n3_; clear n0_ n1_ n2_ n3_; clear hb hbox hg; have hcz13_0 : w12.cell? ⟨gb242, 0, none⟩ = some (.slice A0_0 l0_0.length c0_0) := (blk_cell BK242.out 0).trans rfl; have hcz13_1 : w12.cell? ⟨gb242, 1, none⟩ = some (.slice A0_1 l0_1.length c0_1) := (blk_cell BK242.out 1).trans rfl; have hcz13_2 : w12.cell? ⟨gb242, 2, none⟩ = some (.int .i64 a0_2) := (blk_cell BK242.out 2).trans rfl; have hfz13_0 := blk_frozen BK242.out 0; have hfz13_1 := blk_frozen BK242.out 1; have hfz13_2 := blk_frozen BK242.out 2) | (go_at_call 9; (with_reducible refine (pacelinelaw08_heavy.calls k _ _ l0_0 _ _ l0_1 a0_2 false _ ?side1 ?side2 ?side3 ?side4 A2.out).mono ?_); (case side1 => repeat (first | exact (Kd.C_below HR0_0.out HB.out) | (with_reducible refine Kd.C_alloc ?_ _) | (with_reducible refine Kd.C_drewN ?_ _) | (with_reducible refine Kd.C_drew ?_))); (case side2 => exact HC0_0.out); (case side3 => repeat (first | exact (Kd.C_below HR0_1.out HB.out) | (with_reducible refine Kd.C_alloc ?_ _) | (with_reducible refine Kd.C_drewN ?_ _) | (with_reducible refine Kd.C_drew ?_))); (case side4 => exact HC0_1.out); rintro e w14 ⟨rfl, hb⟩; have n0_ := Aside0.mk (blk_below (g := gb242) (o := .cells #[.slice A0_0 l0_0.length c0_0, .slice A0_1 l0_1.length c0_1, .int .i64 a0_2] 25 (0, 0)) (by (with_reducible repeat (first | refine blk_drewN ?_ _ | refine blk_drew ?_ | refine blk_alloc ?_ _)); exact BK242.out) hb); have n1_ := Aside0.mk (below_step (by repeat (first | (with_reducible first | exact HB.out | apply below_alloc | apply pw_below_drewN | apply below_drew1 | refine below_set ?_ GE242.out) | exact HB.out)) hb); clear BK242; clear HB; have BK242 := n0_; have HB := n1_; clear n0_ n1_; (try clear hb); (try clear hb2); (try clear hk); (try clear hi); have hcz15_0 : w14.cell? ⟨gb242, 0, none⟩ = some (.slice A0_0 l0_0.length c0_0) := (blk_cell BK242.out 0).trans rfl; have hcz15_1 : w14.cell? ⟨gb242, 1, none⟩ = some (.slice A0_1 l0_1.length c0_1) := (blk_cell BK242.out 1).trans rfl; have hcz15_2 : w14.cell? ⟨gb242, 2, none⟩ = some (.int .i64 a0_2) := (blk_cell BK242.out 2).trans rfl; have hfz15_0 := blk_frozen BK242.out 0; have hfz15_1 := blk_frozen BK242.out 1; have hfz15_2 := blk_frozen BK242.out 2) | (go_at_call 10; (with_reducible refine (config_Check.calls _ _ l0_0 _ _ l0_1 a0_2 t245 t246 _ ?side1 ?side2 ?side3 ?side4 A9.out).mono ?_); (case side1 => repeat (first | exact (Kd.C_below HR0_0.out HB.out) | (with_reducible refine Kd.C_alloc ?_ _) | (with_reducible refine Kd.C_drewN ?_ _) | (with_reducible refine Kd.C_drew ?_))); (case side2 => exact HC0_0.out); (case side3 => repeat (first | exact (Kd.C_below HR0_1.out HB.out) | (with_reducible refine Kd.C_alloc ?_ _) | (with_reducible refine Kd.C_drewN ?_ _) | (with_reducible refine Kd.C_drew ?_))); (case side4 => exact HC0_1.out); rintro e w16 ⟨rfl, hb⟩; have n0_ := Aside0.mk (blk_below (g := gb242) (o := .cells #[.slice A0_0 l0_0.length c0_0, .slice A0_1 l0_1.length c0_1, .int .i64 a0_2] 25 (0, 0)) (by (with_reducible repeat (first | refine blk_drewN ?_ _ | refine blk_drew ?_ | refine blk_alloc ?_ _)); exact BK242.out) hb); have n1_ := Aside0.mk (below_step (by repeat (first | (with_reducible first | exact HB.out | apply below_alloc | apply pw_below_drewN | apply below_drew1 | refine below_set ?_ GE242.out) | exact HB.out)) hb); clear BK242; clear HB; have BK242 := n0_; have HB := n1_; clear n0_ n1_; (try clear hb); (try clear hb2); (try clear hk); (try clear hi); have hcz17_0 : w16.cell? ⟨gb242, 0, none⟩ = some (.slice A0_0 l0_0.length c0_0) := (blk_cell BK242.out 0).trans rfl; have hcz17_1 : w16.cell? ⟨gb242, 1, none⟩ = some (.slice A0_1 l0_1.length c0_1) := (blk_cell BK242.out 1).trans rfl; have hcz17_2 : w16.cell? ⟨gb242, 2, none⟩ = some (.int .i64 a0_2) := (blk_cell BK242.out 2).trans rfl; have hfz17_0 := blk_frozen BK242.out 0; have hfz17_1 := blk_frozen BK242.out 1; have hfz17_2 := blk_frozen BK242.out 2) | (go_at_call 11; (with_reducible refine (pacelineref08_Check.calls k _ _ l0_0 _ _ l0_1 a0_2 t247 t248 _ ?side1 ?side2 ?side3 ?side4 A10.out).mono ?_); (case side1 => repeat (first | exact (Kd.C_below HR0_0.out HB.out) | (with_reducible refine Kd.C_alloc ?_ _) | (with_reducible refine Kd.C_drewN ?_ _) | (with_reducible refine Kd.C_drew ?_))); (case side2 => exact HC0_0.out); (case side3 => repeat (first | exact (Kd.C_below HR0_1.out HB.out) | (with_reducible refine Kd.C_alloc ?_ _) | (with_reducible refine Kd.C_drewN ?_ _) | (with_reducible refine Kd.C_drew ?_))); (case side4 => exact HC0_1.out); rintro e w18 ⟨rfl, hb⟩; have n0_ := Aside0.mk (blk_below (g := gb242) (o := .cells #[.slice A0_0 l0_0.length c0_0, .slice A0_1 l0_1.length c0_1, .int .i64 a0_2] 25 (0, 0)) (by (with_reducible repeat (first | refine blk_drewN ?_ _ | refine blk_drew ?_ | refine blk_alloc ?_ _)); exact BK242.out) hb); have n1_ := Aside0.mk (below_step (by repeat (first | (with_reducible first | exact HB.out | apply below_alloc | apply pw_below_drewN | apply below_drew1 | refine below_set ?_ GE242.out) | exact HB.out)) hb); clear BK242; clear HB; have BK242 := n0_; have HB := n1_; clear n0_ n1_; (try clear hb); (try clear hb2); (try clear hk); (try clear hi))))
  (try simp only [Act.put, List.setIfInBounds_toArray, List.set_cons_zero, List.set_cons_succ])
  go_cut [29] (fun v29 wc => ∃ (kq : Nat) (x29_10 : Bool), v29 = .bool x29_10 ∧ Aside0 (pacelinelaw08_ConfigKeys.j0 kq t246 x29_10 l0_0 l0_1 a0_2 = some r) ∧ Aside0 (kq ≤ k) ∧ Aside0 (wc.heap[gb242]? = some (.cells #[(.slice A0_0 l0_0.length c0_0), (.slice A0_1 l0_1.length c0_1), .int .i64 a0_2] 25 (0, 0))) ∧ Aside0 (Below w.heap.size w wc))
  case first =>
   have H := HC11.out
   clear HC11
   by_cases c19 : t246 = t248
   ·rw [if_pos c19] at H
    have c19b0 : (t246 == t248) = true := beq_iff_eq.mpr c19
    have c19b1 : (t246 != t248) = false := bne_eq_false_iff_eq.mpr c19
    clear c19
    (first | rw [c19b0] | (simp only [i64_w, i32_w]; rw [c19b0]) | skip)
    replace H := Option.bind_eq_some_iff.mp H
    obtain ⟨t249, A200, H⟩ := H
    replace H : (pacelinelaw08_ConfigKeys.j0 k t246 (!t249) l0_0 l0_1 a0_2) = some r := H
    have A20 := Aside0.mk A200
    clear A200
    have H' := Aside0.mk H
    clear H
    go_wp2_with (first | (go_at_call 12; (with_reducible refine (pacelinelaw08_shown.calls  t249 _ A20.out).mono ?_); rintro e w21 ⟨rfl, hb⟩; have n0_ := Aside0.mk (blk_below (g := gb242) (o := .cells #[.slice A0_0 l0_0.length c0_0, .slice A0_1 l0_1.length c0_1, .int .i64 a0_2] 25 (0, 0)) (by (with_reducible repeat (first | refine blk_drewN ?_ _ | refine blk_drew ?_ | refine blk_alloc ?_ _)); exact BK242.out) hb); have n1_ := Aside0.mk (below_step (by repeat (first | (with_reducible first | exact HB.out | apply below_alloc | apply pw_below_drewN | apply below_drew1 | refine below_set ?_ GE242.out) | exact HB.out)) hb); clear BK242; clear HB; have BK242 := n0_; have HB := n1_; clear n0_ n1_; (try clear hb); (try clear hb2); (try clear hk); (try clear hi)))
    repeat (go_quiet (first | (go_at_call 12; (with_reducible refine (pacelinelaw08_shown.calls  t249 _ A20.out).mono ?_); rintro e w21 ⟨rfl, hb⟩; have n0_ := Aside0.mk (blk_below (g := gb242) (o := .cells #[.slice A0_0 l0_0.length c0_0, .slice A0_1 l0_1.length c0_1, .int .i64 a0_2] 25 (0, 0)) (by (with_reducible repeat (first | refine blk_drewN ?_ _ | refine blk_drew ?_ | refine blk_alloc ?_ _)); exact BK242.out) hb); have n1_ := Aside0.mk (below_step (by repeat (first | (with_reducible first | exact HB.out | apply below_alloc | apply pw_below_drewN | apply below_drew1 | refine below_set ?_ GE242.out) | exact HB.out)) hb); clear BK242; clear HB; have BK242 := n0_; have HB := n1_; clear n0_ n1_; (try clear hb); (try clear hb2); (try clear hk); (try clear hi))); try go_wp2_with (first | (go_at_call 12; (with_reducible refine (pacelinelaw08_shown.calls  t249 _ A20.out).mono ?_); rintro e w21 ⟨rfl, hb⟩; have n0_ := Aside0.mk (blk_below (g := gb242) (o := .cells #[.slice A0_0 l0_0.length c0_0, .slice A0_1 l0_1.length c0_1, .int .i64 a0_2] 25 (0, 0)) (by (with_reducible repeat (first | refine blk_drewN ?_ _ | refine blk_drew ?_ | refine blk_alloc ?_ _)); exact BK242.out) hb); have n1_ := Aside0.mk (below_step (by repeat (first | (with_reducible first | exact HB.out | apply below_alloc | apply pw_below_drewN | apply below_drew1 | refine below_set ?_ GE242.out) | exact HB.out)) hb); clear BK242; clear HB; have BK242 := n0_; have HB := n1_; clear n0_ n1_; (try clear hb); (try clear hb2); (try clear hk); (try clear hi))))
    go_meet
    case rel => exact ⟨_, (!t249), (by first | rfl | (simp; done) | (simp [*]; done)), H', ⟨by first | omega | exact Nat.le_refl _⟩, ⟨by (with_reducible repeat (first | refine blk_drewN ?_ _ | refine blk_drew ?_ | refine blk_alloc ?_ _)); exact BK242.out⟩, ⟨by repeat (first | (with_reducible first | exact HB.out | apply below_alloc | apply pw_below_drewN | apply below_drew1 | refine below_set ?_ GE242.out) | exact HB.out)⟩⟩
   ·rw [if_neg c19] at H
    have c19b0 : (t246 == t248) = false := beq_eq_false_iff_ne.mpr c19
    have c19b1 : (t246 != t248) = true := bne_iff_ne.mpr c19
    (first | rw [c19b0] | (simp only [i64_w, i32_w]; rw [c19b0]) | skip)
    have H' := Aside0.mk H
    clear H
    go_wp2
    repeat (go_quiet (fail); try go_wp2)
    go_meet
    case rel => exact ⟨_, (true), (by first | rfl | (simp; done) | (simp [*]; done)), H', ⟨by first | omega | exact Nat.le_refl _⟩, ⟨by (with_reducible repeat (first | refine blk_drewN ?_ _ | refine blk_drew ?_ | refine blk_alloc ?_ _)); exact BK242.out⟩, ⟨by repeat (first | (with_reducible first | exact HB.out | apply below_alloc | apply pw_below_drewN | apply below_drew1 | refine below_set ?_ GE242.out) | exact HB.out)⟩⟩
  case rest =>
   clear HC11
   try clear c1
   try clear p2
   try clear c3
   try clear c6
   try clear c19
   try clear c19b0
   try clear c19b1
   try clear hcz13_0
   try clear hcz13_1
   try clear hcz13_2
   try clear hcz15_0
   try clear hcz15_1
   try clear hcz15_2
   try clear hcz17_0
   try clear hcz17_1
   try clear hcz17_2
   try clear hcz6_0
   try clear hcz6_1
   try clear hcz6_2
   try clear hfz13_0
   try clear hfz13_1
   try clear hfz13_2
   try clear hfz15_0
   try clear hfz15_1
   try clear hfz15_2
   try clear hfz17_0
   try clear hfz17_1
   try clear hfz17_2
   try clear hfz6_0
   try clear hfz6_1
   try clear hfz6_2
   obtain ⟨kq, x29_10, rfl, HA, HJ10, BK242, HB⟩ := hcut
   cases kq with
   | zero => exact absurd HA.out (by simp [pacelinelaw08_ConfigKeys.j0])
   | succ kj10 =>
    have H := HA.out
    clear HA
    simp only [pacelinelaw08_ConfigKeys.j0] at H
    by_cases c22 : x29_10 = true
    ·subst c22
     have H1 : (some false) = some r := by rw [if_pos rfl] at H; exact H
     clear H
     have H := H1
     clear H1
     obtain rfl := Option.some.inj H
     go_wp2
     repeat (go_quiet (fail); try go_wp2)
     go_ret
     exact ⟨by first | rfl | (simp [errW_none, errW_some] <;> rfl) | (simp [*, errW_none, errW_some] <;> rfl), by repeat (first | (with_reducible first | exact HB.out | apply below_alloc | apply pw_below_drewN | apply below_drew1 | refine below_set ?_ GE242.out) | exact HB.out)⟩
    ·replace c22 := Bool.eq_false_iff.mpr c22
     subst c22
     have H1 : (if t246 = 0 then ((config_Starts.f kj10 l0_0 l0_1 a0_2).bind fun t250 => (pacelinelaw08_ConfigKeys.l0 kj10 t250 0 l0_0 l0_1 a0_2)) else (some true)) = some r := by rw [if_neg (show ¬ (false = true) by decide)] at H; exact H
     clear H
     have H := H1
     clear H1
     by_cases c23 : t246 = 0
     ·rw [if_pos c23] at H
      have c23b0 : (t246 == 0) = true := beq_iff_eq.mpr c23
      have c23b1 : (t246 != 0) = false := bne_eq_false_iff_eq.mpr c23
      clear c23
      replace H := Option.bind_eq_some_iff.mp H
      obtain ⟨t250, A240, H⟩ := H
      replace H : (pacelinelaw08_ConfigKeys.l0 kj10 t250 0 l0_0 l0_1 a0_2) = some r := H
      have A24 := Aside0.mk A240
      clear A240
      have H' := Aside0.mk H
      clear H
      have hcz25_0 : wc.cell? ⟨gb242, 0, none⟩ = some (.slice A0_0 l0_0.length c0_0) := (blk_cell BK242.out 0).trans rfl
      have hcz25_1 : wc.cell? ⟨gb242, 1, none⟩ = some (.slice A0_1 l0_1.length c0_1) := (blk_cell BK242.out 1).trans rfl
      have hcz25_2 : wc.cell? ⟨gb242, 2, none⟩ = some (.int .i64 a0_2) := (blk_cell BK242.out 2).trans rfl
      have hfz25_0 := blk_frozen BK242.out 0
      have hfz25_1 := blk_frozen BK242.out 1
      have hfz25_2 := blk_frozen BK242.out 2
      go_wp2_with (first | (go_at_call 18; (with_reducible refine (config_Starts.calls kj10 _ _ l0_0 _ _ l0_1 a0_2 t250 _ ?side1 ?side2 ?side3 ?side4 A24.out).mono ?_); (case side1 => repeat (first | exact (Kd.C_below HR0_0.out HB.out) | (with_reducible refine Kd.C_alloc ?_ _) | (with_reducible refine Kd.C_drewN ?_ _) | (with_reducible refine Kd.C_drew ?_))); (case side2 => exact HC0_0.out); (case side3 => repeat (first | exact (Kd.C_below HR0_1.out HB.out) | (with_reducible refine Kd.C_alloc ?_ _) | (with_reducible refine Kd.C_drewN ?_ _) | (with_reducible refine Kd.C_drew ?_))); (case side4 => exact HC0_1.out); rintro e w26 ⟨v251, rfl, ho0, hb⟩; have n0_ := Aside0.mk (Kd.R_lower ho0 (below_size (by repeat (first | (with_reducible first | exact HB.out | apply below_alloc | apply pw_below_drewN | apply below_drew1 | refine below_set ?_ GE242.out) | exact HB.out)))); have n1_ := Aside0.mk (blk_below (g := gb242) (o := .cells #[.slice A0_0 l0_0.length c0_0, .slice A0_1 l0_1.length c0_1, .int .i64 a0_2] 25 (0, 0)) (by (with_reducible repeat (first | refine blk_drewN ?_ _ | refine blk_drew ?_ | refine blk_alloc ?_ _)); exact BK242.out) hb); have n2_ := Aside0.mk (below_step (by repeat (first | (with_reducible first | exact HB.out | apply below_alloc | apply pw_below_drewN | apply below_drew1 | refine below_set ?_ GE242.out) | exact HB.out)) hb); clear BK242; clear HB; have HO252 := n0_; have BK242 := n1_; have HB := n2_; clear n0_ n1_ n2_; (try clear hb); (try clear hb2); (try clear hk); (try clear hi); (try clear ho0)))
      repeat (go_quiet (first | (go_at_call 18; (with_reducible refine (config_Starts.calls kj10 _ _ l0_0 _ _ l0_1 a0_2 t250 _ ?side1 ?side2 ?side3 ?side4 A24.out).mono ?_); (case side1 => repeat (first | exact (Kd.C_below HR0_0.out HB.out) | (with_reducible refine Kd.C_alloc ?_ _) | (with_reducible refine Kd.C_drewN ?_ _) | (with_reducible refine Kd.C_drew ?_))); (case side2 => exact HC0_0.out); (case side3 => repeat (first | exact (Kd.C_below HR0_1.out HB.out) | (with_reducible refine Kd.C_alloc ?_ _) | (with_reducible refine Kd.C_drewN ?_ _) | (with_reducible refine Kd.C_drew ?_))); (case side4 => exact HC0_1.out); rintro e w26 ⟨v251, rfl, ho0, hb⟩; have n0_ := Aside0.mk (Kd.R_lower ho0 (below_size (by repeat (first | (with_reducible first | exact HB.out | apply below_alloc | apply pw_below_drewN | apply below_drew1 | refine below_set ?_ GE242.out) | exact HB.out)))); have n1_ := Aside0.mk (blk_below (g := gb242) (o := .cells #[.slice A0_0 l0_0.length c0_0, .slice A0_1 l0_1.length c0_1, .int .i64 a0_2] 25 (0, 0)) (by (with_reducible repeat (first | refine blk_drewN ?_ _ | refine blk_drew ?_ | refine blk_alloc ?_ _)); exact BK242.out) hb); have n2_ := Aside0.mk (below_step (by repeat (first | (with_reducible first | exact HB.out | apply below_alloc | apply pw_below_drewN | apply below_drew1 | refine below_set ?_ GE242.out) | exact HB.out)) hb); clear BK242; clear HB; have HO252 := n0_; have BK242 := n1_; have HB := n2_; clear n0_ n1_ n2_; (try clear hb); (try clear hb2); (try clear hk); (try clear hi); (try clear ho0))); try go_wp2_with (first | (go_at_call 18; (with_reducible refine (config_Starts.calls kj10 _ _ l0_0 _ _ l0_1 a0_2 t250 _ ?side1 ?side2 ?side3 ?side4 A24.out).mono ?_); (case side1 => repeat (first | exact (Kd.C_below HR0_0.out HB.out) | (with_reducible refine Kd.C_alloc ?_ _) | (with_reducible refine Kd.C_drewN ?_ _) | (with_reducible refine Kd.C_drew ?_))); (case side2 => exact HC0_0.out); (case side3 => repeat (first | exact (Kd.C_below HR0_1.out HB.out) | (with_reducible refine Kd.C_alloc ?_ _) | (with_reducible refine Kd.C_drewN ?_ _) | (with_reducible refine Kd.C_drew ?_))); (case side4 => exact HC0_1.out); rintro e w26 ⟨v251, rfl, ho0, hb⟩; have n0_ := Aside0.mk (Kd.R_lower ho0 (below_size (by repeat (first | (with_reducible first | exact HB.out | apply below_alloc | apply pw_below_drewN | apply below_drew1 | refine below_set ?_ GE242.out) | exact HB.out)))); have n1_ := Aside0.mk (blk_below (g := gb242) (o := .cells #[.slice A0_0 l0_0.length c0_0, .slice A0_1 l0_1.length c0_1, .int .i64 a0_2] 25 (0, 0)) (by (with_reducible repeat (first | refine blk_drewN ?_ _ | refine blk_drew ?_ | refine blk_alloc ?_ _)); exact BK242.out) hb); have n2_ := Aside0.mk (below_step (by repeat (first | (with_reducible first | exact HB.out | apply below_alloc | apply pw_below_drewN | apply below_drew1 | refine below_set ?_ GE242.out) | exact HB.out)) hb); clear BK242; clear HB; have HO252 := n0_; have BK242 := n1_; have HB := n2_; clear n0_ n1_ n2_; (try clear hb); (try clear hb2); (try clear hk); (try clear hi); (try clear ho0))))
      go_loopg [8] kj10 (fun kq v8 w' => ∃ (x8_2 : Int), v8 = .int .i64 x8_2 ∧ Aside0 (pacelinelaw08_ConfigKeys.l0 kq t250 x8_2 l0_0 l0_1 a0_2 = some r) ∧ Aside0 (kq ≤ kj10) ∧ Aside0 (Kd.R k48 48 w' w.heap.size (fun _ => True) v251 t250) ∧ Aside0 (w'.heap[gb242]? = some (.cells #[(.slice A0_0 l0_0.length c0_0), (.slice A0_1 l0_1.length c0_1), .int .i64 a0_2] 25 (0, 0))) ∧ Aside0 (Below w.heap.size w w'))
      case atStart => exact ⟨(0), (by first | rfl | (simp; done) | (simp [*]; done)), H', ⟨Nat.le_refl _⟩, ⟨by (with_reducible repeat (first | apply Kd.R_alloc | apply Kd.R_drewN | apply Kd.R_drew)); exact HO252.out⟩, ⟨by (with_reducible repeat (first | refine blk_drewN ?_ _ | refine blk_drew ?_ | refine blk_alloc ?_ _)); exact BK242.out⟩, ⟨by repeat (first | (with_reducible first | exact HB.out | apply below_alloc | apply pw_below_drewN | apply below_drew1 | refine below_set ?_ GE242.out) | exact HB.out)⟩⟩
      case round =>
       clear H'
       try clear c1
       try clear c2
       try clear p2
       try clear c3
       try clear c6
       try clear c19
       try clear c19b0
       try clear c19b1
       try clear c22
       try clear c23
       try clear c23b0
       try clear c23b1
       try clear hcz13_0
       try clear hcz13_1
       try clear hcz13_2
       try clear hcz15_0
       try clear hcz15_1
       try clear hcz15_2
       try clear hcz17_0
       try clear hcz17_1
       try clear hcz17_2
       try clear hcz25_0
       try clear hcz25_1
       try clear hcz25_2
       try clear hcz6_0
       try clear hcz6_1
       try clear hcz6_2
       try clear hfz13_0
       try clear hfz13_1
       try clear hfz13_2
       try clear hfz15_0
       try clear hfz15_1
       try clear hfz15_2
       try clear hfz17_0
       try clear hfz17_1
       try clear hfz17_2
       try clear hfz25_0
       try clear hfz25_1
       try clear hfz25_2
       try clear hfz6_0
       try clear hfz6_1
       try clear hfz6_2
       try clear p2
       obtain ⟨x8_2, rfl, HA, HK2, HO_7, BK242, HB⟩ := hrel
       cases gk with
       | zero => exact absurd HA.out (by simp [pacelinelaw08_ConfigKeys.l0])
       | succ k2 =>
        have H := HA.out
        clear HA
        simp only [pacelinelaw08_ConfigKeys.l0] at H
        by_cases c27 : x8_2 < (t250.length : Int)
        ·rw [if_pos c27] at H
         have c27b0 : decide (x8_2 < (t250.length : Int)) = true := decide_eq_true c27
         clear c27
         have H' := Aside0.mk H
         clear H
         obtain ⟨Ao28, co28, eo28⟩ := Kd.R_slice HO_7.out
         subst eo28
         go_wp2
         repeat (go_quiet (fail); try go_wp2)
         go_loopg [9] k2 (fun kq v9 w' => ∃ (x9_3 : Int), v9 = .int .i64 x9_3 ∧ Aside0 (pacelinelaw08_ConfigKeys.l1 kq t250 x8_2 x9_3 l0_0 l0_1 a0_2 = some r) ∧ Aside0 (kq ≤ k2) ∧ Aside0 (Kd.R k48 48 w' w.heap.size (fun _ => True) (.slice Ao28 t250.length co28) t250) ∧ Aside0 (w'.heap[gb242]? = some (.cells #[(.slice A0_0 l0_0.length c0_0), (.slice A0_1 l0_1.length c0_1), .int .i64 a0_2] 25 (0, 0))) ∧ Aside0 (Below w.heap.size w w'))
         case atStart => exact ⟨(0), (by first | rfl | (simp; done) | (simp [*]; done)), H', ⟨Nat.le_refl _⟩, ⟨by (with_reducible repeat (first | apply Kd.R_alloc | apply Kd.R_drewN | apply Kd.R_drew)); exact HO_7.out⟩, ⟨by (with_reducible repeat (first | refine blk_drewN ?_ _ | refine blk_drew ?_ | refine blk_alloc ?_ _)); exact BK242.out⟩, ⟨by repeat (first | (with_reducible first | exact HB.out | apply below_alloc | apply pw_below_drewN | apply below_drew1 | refine below_set ?_ GE242.out) | exact HB.out)⟩⟩
         case round =>
          clear H'
          try clear c1
          try clear c2
          try clear p2
          try clear c3
          try clear c6
          try clear c19
          try clear c19b0
          try clear c19b1
          try clear c22
          try clear c23
          try clear c23b0
          try clear c23b1
          try clear c27
          try clear c27b0
          try clear hcz13_0
          try clear hcz13_1
          try clear hcz13_2
          try clear hcz15_0
          try clear hcz15_1
          try clear hcz15_2
          try clear hcz17_0
          try clear hcz17_1
          try clear hcz17_2
          try clear hcz25_0
          try clear hcz25_1
          try clear hcz25_2
          try clear hcz6_0
          try clear hcz6_1
          try clear hcz6_2
          try clear hfz13_0
          try clear hfz13_1
          try clear hfz13_2
          try clear hfz15_0
          try clear hfz15_1
          try clear hfz15_2
          try clear hfz17_0
          try clear hfz17_1
          try clear hfz17_2
          try clear hfz25_0
          try clear hfz25_1
          try clear hfz25_2
          try clear hfz6_0
          try clear hfz6_1
          try clear hfz6_2
          try clear p2
          obtain ⟨x9_3, rfl, HA, HK3, HO_7, BK242, HB⟩ := hrel
          cases gk with
          | zero => exact absurd HA.out (by simp [pacelinelaw08_ConfigKeys.l1])
          | succ k3 =>
           have H := HA.out
           clear HA
           simp only [pacelinelaw08_ConfigKeys.l1] at H
           by_cases c29 : x9_3 < x8_2
           ·rw [if_pos c29] at H
            have c29b0 : decide (x9_3 < x8_2) = true := decide_eq_true c29
            clear c29
            by_cases c30 : 0 ≤ x8_2
            ·rw [if_pos c30] at H
             have c30b0 : decide (0 ≤ x8_2) = true := decide_eq_true c30
             clear c30
             by_cases c31 : x8_2 < (t250.length : Int)
             ·rw [if_pos c31] at H
              have c31b0 : decide (x8_2 < (t250.length : Int)) = true := decide_eq_true c31
              clear c31
              by_cases c32 : 0 ≤ x9_3
              ·rw [if_pos c32] at H
               have c32b0 : decide (0 ≤ x9_3) = true := decide_eq_true c32
               clear c32
               by_cases c33 : x9_3 < (t250.length : Int)
               ·rw [if_pos c33] at H
                have c33b0 : decide (x9_3 < (t250.length : Int)) = true := decide_eq_true c33
                clear c33
                by_cases c34 : (((rd_T48 t250 x8_2).f0.f0) == ((rd_T48 t250 x9_3).f0.f0) && (((rd_T48 t250 x8_2).f0.f1) == ((rd_T48 t250 x9_3).f0.f1) && (((rd_T48 t250 x8_2).f0.f2) == ((rd_T48 t250 x9_3).f0.f2)))) = true
                ·rw [if_pos c34] at H
                 have c34b0 : (((rd_T48 t250 x8_2).f0.f0) == ((rd_T48 t250 x9_3).f0.f0) && (((rd_T48 t250 x8_2).f0.f1) == ((rd_T48 t250 x9_3).f0.f1) && (((rd_T48 t250 x8_2).f0.f2) == ((rd_T48 t250 x9_3).f0.f2)))) = true := c34
                 (try (have c34b1 : decide (((rd_T48 t250 x8_2).f0.f0) = ((rd_T48 t250 x9_3).f0.f0) && (((rd_T48 t250 x8_2).f0.f1) == ((rd_T48 t250 x9_3).f0.f1) && (((rd_T48 t250 x8_2).f0.f2) == ((rd_T48 t250 x9_3).f0.f2)))) = true := by simpa using c34))
                 (try (have c34b2 : (((rd_T48 t250 x8_2).f0.f0) == ((rd_T48 t250 x9_3).f0.f0) && (((rd_T48 t250 x8_2).f0.f1) == ((rd_T48 t250 x9_3).f0.f1) && (((rd_T48 t250 x8_2).f0.f2) == ((rd_T48 t250 x9_3).f0.f2)))) = true := by simpa using c34))
                 clear c34
                 by_cases c35 : ((rd_T48 t250 x8_2).f1) = ((rd_T48 t250 x9_3).f1)
                 ·rw [if_pos c35] at H
                  have c35b0 : (((rd_T48 t250 x8_2).f1) == ((rd_T48 t250 x9_3).f1)) = true := beq_iff_eq.mpr c35
                  have c35b1 : (((rd_T48 t250 x8_2).f1) != ((rd_T48 t250 x9_3).f1)) = false := bne_eq_false_iff_eq.mpr c35
                  clear c35
                  obtain rfl := Option.some.inj H
                  have p257 : 0 ≤ (x8_2 : Int) := of_decide_eq_true (by first | (with_reducible assumption) | assumption)
                  have q257 : x8_2 < (t250.length : Int) := of_decide_eq_true (by first | (with_reducible assumption) | assumption)
                  obtain ⟨ad257, e257, hx257_0, hx257_1, hx257_2, hx257_3, hx257_4, hx257_5⟩ := at_T48 (Kd.R_reads' HO_7.out).2.2 x8_2 p257 q257
                  cases e257
                  replace p257 := eq_true p257
                  replace q257 := eq_true q257
                  have p258 : 0 ≤ (x9_3 : Int) := of_decide_eq_true (by first | (with_reducible assumption) | assumption)
                  have q258 : x9_3 < (t250.length : Int) := of_decide_eq_true (by first | (with_reducible assumption) | assumption)
                  obtain ⟨ad258, e258, hx258_0, hx258_1, hx258_2, hx258_3, hx258_4, hx258_5⟩ := at_T48 (Kd.R_reads' HO_7.out).2.2 x9_3 p258 q258
                  obtain rfl : ad257 = ad258 := (by injection e258)
                  replace p258 := eq_true p258
                  replace q258 := eq_true q258
                  have p259 : 0 ≤ (x8_2 : Int) := of_decide_eq_true (by first | (with_reducible assumption) | assumption)
                  have q259 : x8_2 < (t250.length : Int) := of_decide_eq_true (by first | (with_reducible assumption) | assumption)
                  obtain ⟨ad259, e259, hx259_0, hx259_1, hx259_2, hx259_3, hx259_4, hx259_5⟩ := at_T48 (Kd.R_reads' HO_7.out).2.2 x8_2 p259 q259
                  obtain rfl : ad257 = ad259 := (by injection e259)
                  replace p259 := eq_true p259
                  replace q259 := eq_true q259
                  have p260 : 0 ≤ (x9_3 : Int) := of_decide_eq_true (by first | (with_reducible assumption) | assumption)
                  have q260 : x9_3 < (t250.length : Int) := of_decide_eq_true (by first | (with_reducible assumption) | assumption)
                  obtain ⟨ad260, e260, hx260_0, hx260_1, hx260_2, hx260_3, hx260_4, hx260_5⟩ := at_T48 (Kd.R_reads' HO_7.out).2.2 x9_3 p260 q260
                  obtain rfl : ad257 = ad260 := (by injection e260)
                  replace p260 := eq_true p260
                  replace q260 := eq_true q260
                  go_wp2
                  repeat (go_quiet (fail); try go_wp2)
                  go_ret
                  exact ⟨by first | rfl | (simp [errW_none, errW_some] <;> rfl) | (simp [*, errW_none, errW_some] <;> rfl), by repeat (first | (with_reducible first | exact HB.out | apply below_alloc | apply pw_below_drewN | apply below_drew1 | refine below_set ?_ GE242.out) | exact HB.out)⟩
                 ·rw [if_neg c35] at H
                  have c35b0 : (((rd_T48 t250 x8_2).f1) == ((rd_T48 t250 x9_3).f1)) = false := beq_eq_false_iff_ne.mpr c35
                  have c35b1 : (((rd_T48 t250 x8_2).f1) != ((rd_T48 t250 x9_3).f1)) = true := bne_iff_ne.mpr c35
                  have H' := Aside0.mk H
                  clear H
                  have p257 : 0 ≤ (x8_2 : Int) := of_decide_eq_true (by first | (with_reducible assumption) | assumption)
                  have q257 : x8_2 < (t250.length : Int) := of_decide_eq_true (by first | (with_reducible assumption) | assumption)
                  obtain ⟨ad257, e257, hx257_0, hx257_1, hx257_2, hx257_3, hx257_4, hx257_5⟩ := at_T48 (Kd.R_reads' HO_7.out).2.2 x8_2 p257 q257
                  cases e257
                  replace p257 := eq_true p257
                  replace q257 := eq_true q257
                  have p258 : 0 ≤ (x9_3 : Int) := of_decide_eq_true (by first | (with_reducible assumption) | assumption)
                  have q258 : x9_3 < (t250.length : Int) := of_decide_eq_true (by first | (with_reducible assumption) | assumption)
                  obtain ⟨ad258, e258, hx258_0, hx258_1, hx258_2, hx258_3, hx258_4, hx258_5⟩ := at_T48 (Kd.R_reads' HO_7.out).2.2 x9_3 p258 q258
                  obtain rfl : ad257 = ad258 := (by injection e258)
                  replace p258 := eq_true p258
                  replace q258 := eq_true q258
                  have p259 : 0 ≤ (x8_2 : Int) := of_decide_eq_true (by first | (with_reducible assumption) | assumption)
                  have q259 : x8_2 < (t250.length : Int) := of_decide_eq_true (by first | (with_reducible assumption) | assumption)
                  obtain ⟨ad259, e259, hx259_0, hx259_1, hx259_2, hx259_3, hx259_4, hx259_5⟩ := at_T48 (Kd.R_reads' HO_7.out).2.2 x8_2 p259 q259
                  obtain rfl : ad257 = ad259 := (by injection e259)
                  replace p259 := eq_true p259
                  replace q259 := eq_true q259
                  have p260 : 0 ≤ (x9_3 : Int) := of_decide_eq_true (by first | (with_reducible assumption) | assumption)
                  have q260 : x9_3 < (t250.length : Int) := of_decide_eq_true (by first | (with_reducible assumption) | assumption)
                  obtain ⟨ad260, e260, hx260_0, hx260_1, hx260_2, hx260_3, hx260_4, hx260_5⟩ := at_T48 (Kd.R_reads' HO_7.out).2.2 x9_3 p260 q260
                  obtain rfl : ad257 = ad260 := (by injection e260)
                  replace p260 := eq_true p260
                  replace q260 := eq_true q260
                  go_wp2
                  repeat (go_quiet (fail); try go_wp2)
                  go_roundg k3
                  case measure => have := HJ10.out; have := HK2.out; have := HK3.out; omega
                  case rel => exact ⟨(wrap64 (x9_3 + 1)), (by first | rfl | (simp; done) | (simp [*]; done)), H', ⟨by have := HJ10.out; have := HK2.out; have := HK3.out; omega⟩, ⟨by (with_reducible repeat (first | apply Kd.R_alloc | apply Kd.R_drewN | apply Kd.R_drew)); exact HO_7.out⟩, ⟨by (with_reducible repeat (first | refine blk_drewN ?_ _ | refine blk_drew ?_ | refine blk_alloc ?_ _)); exact BK242.out⟩, ⟨by repeat (first | (with_reducible first | exact HB.out | apply below_alloc | apply pw_below_drewN | apply below_drew1 | refine below_set ?_ GE242.out) | exact HB.out)⟩⟩
                ·rw [if_neg c34] at H
                 have c34b0 : (((rd_T48 t250 x8_2).f0.f0) == ((rd_T48 t250 x9_3).f0.f0) && (((rd_T48 t250 x8_2).f0.f1) == ((rd_T48 t250 x9_3).f0.f1) && (((rd_T48 t250 x8_2).f0.f2) == ((rd_T48 t250 x9_3).f0.f2)))) = false := by simpa using c34
                 (try (have c34b1 : decide (((rd_T48 t250 x8_2).f0.f0) = ((rd_T48 t250 x9_3).f0.f0) && (((rd_T48 t250 x8_2).f0.f1) == ((rd_T48 t250 x9_3).f0.f1) && (((rd_T48 t250 x8_2).f0.f2) == ((rd_T48 t250 x9_3).f0.f2)))) = false := by simpa using c34))
                 (try (have c34b2 : (((rd_T48 t250 x8_2).f0.f0) == ((rd_T48 t250 x9_3).f0.f0) && (((rd_T48 t250 x8_2).f0.f1) == ((rd_T48 t250 x9_3).f0.f1) && (((rd_T48 t250 x8_2).f0.f2) == ((rd_T48 t250 x9_3).f0.f2)))) = false := by simpa using c34))
                 (try (have c34b3 : ¬ (((rd_T48 t250 x8_2).f0.f0) = ((rd_T48 t250 x9_3).f0.f0) && (((rd_T48 t250 x8_2).f0.f1) == ((rd_T48 t250 x9_3).f0.f1) && (((rd_T48 t250 x8_2).f0.f2) == ((rd_T48 t250 x9_3).f0.f2)))) := by simpa using c34))
                 clear c34
                 have H' := Aside0.mk H
                 clear H
                 have p257 : 0 ≤ (x8_2 : Int) := of_decide_eq_true (by first | (with_reducible assumption) | assumption)
                 have q257 : x8_2 < (t250.length : Int) := of_decide_eq_true (by first | (with_reducible assumption) | assumption)
                 obtain ⟨ad257, e257, hx257_0, hx257_1, hx257_2, hx257_3, hx257_4, hx257_5⟩ := at_T48 (Kd.R_reads' HO_7.out).2.2 x8_2 p257 q257
                 cases e257
                 replace p257 := eq_true p257
                 replace q257 := eq_true q257
                 have p258 : 0 ≤ (x9_3 : Int) := of_decide_eq_true (by first | (with_reducible assumption) | assumption)
                 have q258 : x9_3 < (t250.length : Int) := of_decide_eq_true (by first | (with_reducible assumption) | assumption)
                 obtain ⟨ad258, e258, hx258_0, hx258_1, hx258_2, hx258_3, hx258_4, hx258_5⟩ := at_T48 (Kd.R_reads' HO_7.out).2.2 x9_3 p258 q258
                 obtain rfl : ad257 = ad258 := (by injection e258)
                 replace p258 := eq_true p258
                 replace q258 := eq_true q258
                 go_wp2
                 repeat (go_quiet (fail); try go_wp2)
                 go_roundg k3
                 case measure => have := HJ10.out; have := HK2.out; have := HK3.out; omega
                 case rel => exact ⟨(wrap64 (x9_3 + 1)), (by first | rfl | (simp; done) | (simp [*]; done)), H', ⟨by have := HJ10.out; have := HK2.out; have := HK3.out; omega⟩, ⟨by (with_reducible repeat (first | apply Kd.R_alloc | apply Kd.R_drewN | apply Kd.R_drew)); exact HO_7.out⟩, ⟨by (with_reducible repeat (first | refine blk_drewN ?_ _ | refine blk_drew ?_ | refine blk_alloc ?_ _)); exact BK242.out⟩, ⟨by repeat (first | (with_reducible first | exact HB.out | apply below_alloc | apply pw_below_drewN | apply below_drew1 | refine below_set ?_ GE242.out) | exact HB.out)⟩⟩
               ·rw [if_neg c33] at H
                exact absurd H (by simp)
              ·rw [if_neg c32] at H
               exact absurd H (by simp)
             ·rw [if_neg c31] at H
              exact absurd H (by simp)
            ·rw [if_neg c30] at H
             exact absurd H (by simp)
           ·rw [if_neg c29] at H
            have c29b0 : decide (x9_3 < x8_2) = false := decide_eq_false c29
            clear c29
            have H' := Aside0.mk H
            clear H
            go_wp2
            repeat (go_quiet (fail); try go_wp2)
            go_roundg k3
            case measure => have := HJ10.out; have := HK2.out; have := HK3.out; omega
            case rel => exact ⟨(wrap64 (x8_2 + 1)), (by first | rfl | (simp; done) | (simp [*]; done)), H', ⟨by have := HJ10.out; have := HK2.out; have := HK3.out; omega⟩, ⟨by (with_reducible repeat (first | apply Kd.R_alloc | apply Kd.R_drewN | apply Kd.R_drew)); exact HO_7.out⟩, ⟨by (with_reducible repeat (first | refine blk_drewN ?_ _ | refine blk_drew ?_ | refine blk_alloc ?_ _)); exact BK242.out⟩, ⟨by repeat (first | (with_reducible first | exact HB.out | apply below_alloc | apply pw_below_drewN | apply below_drew1 | refine below_set ?_ GE242.out) | exact HB.out)⟩⟩
        ·rw [if_neg c27] at H
         have c27b0 : decide (x8_2 < (t250.length : Int)) = false := decide_eq_false c27
         clear c27
         replace H := Option.bind_eq_some_iff.mp H
         obtain ⟨t253, A360, H⟩ := H
         replace H : ((pacelinelaw08_same.f k2 t250 t253).bind fun t256 => (some t256)) = some r := H
         have A36 := Aside0.mk A360
         clear A360
         replace H := Option.bind_eq_some_iff.mp H
         obtain ⟨t256, A370, H⟩ := H
         replace H : (some t256) = some r := H
         have A37 := Aside0.mk A370
         clear A370
         obtain rfl := Option.some.inj H
         obtain ⟨Ao38, co38, eo38⟩ := Kd.R_slice HO_7.out
         subst eo38
         have hcz39_0 : wr.cell? ⟨gb242, 0, none⟩ = some (.slice A0_0 l0_0.length c0_0) := (blk_cell BK242.out 0).trans rfl
         have hcz39_1 : wr.cell? ⟨gb242, 1, none⟩ = some (.slice A0_1 l0_1.length c0_1) := (blk_cell BK242.out 1).trans rfl
         have hcz39_2 : wr.cell? ⟨gb242, 2, none⟩ = some (.int .i64 a0_2) := (blk_cell BK242.out 2).trans rfl
         have hfz39_0 := blk_frozen BK242.out 0
         have hfz39_1 := blk_frozen BK242.out 1
         have hfz39_2 := blk_frozen BK242.out 2
         go_wp2_with (first | (go_at_call 19; (with_reducible refine (pacelineref08_Starts.calls k2 _ _ l0_0 _ _ l0_1 a0_2 t253 _ ?side1 ?side2 ?side3 ?side4 A36.out).mono ?_); (case side1 => repeat (first | exact (Kd.C_below HR0_0.out HB.out) | (with_reducible refine Kd.C_alloc ?_ _) | (with_reducible refine Kd.C_drewN ?_ _) | (with_reducible refine Kd.C_drew ?_))); (case side2 => exact HC0_0.out); (case side3 => repeat (first | exact (Kd.C_below HR0_1.out HB.out) | (with_reducible refine Kd.C_alloc ?_ _) | (with_reducible refine Kd.C_drewN ?_ _) | (with_reducible refine Kd.C_drew ?_))); (case side4 => exact HC0_1.out); rintro e w40 ⟨v254, rfl, ho0, hb⟩; have n0_ := Aside0.mk (Kd.R_elder' (by (with_reducible repeat (first | apply Kd.R_alloc | apply Kd.R_drewN | apply Kd.R_drew)); exact HO_7.out) (Kd.R_base ho0) hb); have n1_ := Aside0.mk (Kd.R_lower (Kd.R_new' ho0 (Kd.R_lt (by (with_reducible repeat (first | apply Kd.R_alloc | apply Kd.R_drewN | apply Kd.R_drew)); exact HO_7.out))) (below_size (by repeat (first | (with_reducible first | exact HB.out | apply below_alloc | apply pw_below_drewN | apply below_drew1 | refine below_set ?_ GE242.out) | exact HB.out)))); have n2_ := Aside0.mk (blk_below (g := gb242) (o := .cells #[.slice A0_0 l0_0.length c0_0, .slice A0_1 l0_1.length c0_1, .int .i64 a0_2] 25 (0, 0)) (by (with_reducible repeat (first | refine blk_drewN ?_ _ | refine blk_drew ?_ | refine blk_alloc ?_ _)); exact BK242.out) hb); have n3_ := Aside0.mk (below_step (by repeat (first | (with_reducible first | exact HB.out | apply below_alloc | apply pw_below_drewN | apply below_drew1 | refine below_set ?_ GE242.out) | exact HB.out)) hb); clear HO_7; clear BK242; clear HB; have HO_7 := n0_; have HO255 := n1_; have BK242 := n2_; have HB := n3_; clear n0_ n1_ n2_ n3_; (try clear hb); (try clear hb2); (try clear hk); (try clear hi); (try clear ho0); obtain ⟨Ao41, co41, eo41⟩ := Kd.R_slice HO255.out; subst eo41) | (go_at_call 15; (with_reducible refine (pacelinelaw08_same.calls k2 _ _ t250 _ _ t253 t256 _ ?side1 ?side2 ?side3 ?side4 A37.out).mono ?_); (case side1 => repeat (first | exact (Kd.R_reads' HO_7.out).2.2 | (with_reducible refine Kd.C_alloc ?_ _) | (with_reducible refine Kd.C_drewN ?_ _) | (with_reducible refine Kd.C_drew ?_))); (case side2 => exact (Kd.R_reads' HO_7.out).2.1); (case side3 => repeat (first | exact (Kd.R_reads' HO255.out).2.2 | (with_reducible refine Kd.C_alloc ?_ _) | (with_reducible refine Kd.C_drewN ?_ _) | (with_reducible refine Kd.C_drew ?_))); (case side4 => exact (Kd.R_reads' HO255.out).2.1); rintro e w' ⟨rfl, ⟨nd, rfl⟩⟩; (try first | exact ⟨rfl, _, World.drewN_drewN _ _ _⟩ | exact ⟨rfl, _, Eq.trans (World.drewN_drewN _ _ _) (congrArg (World.drewN _) (Nat.add_assoc _ _ _))⟩)))
         repeat (go_quiet (first | (go_at_call 19; (with_reducible refine (pacelineref08_Starts.calls k2 _ _ l0_0 _ _ l0_1 a0_2 t253 _ ?side1 ?side2 ?side3 ?side4 A36.out).mono ?_); (case side1 => repeat (first | exact (Kd.C_below HR0_0.out HB.out) | (with_reducible refine Kd.C_alloc ?_ _) | (with_reducible refine Kd.C_drewN ?_ _) | (with_reducible refine Kd.C_drew ?_))); (case side2 => exact HC0_0.out); (case side3 => repeat (first | exact (Kd.C_below HR0_1.out HB.out) | (with_reducible refine Kd.C_alloc ?_ _) | (with_reducible refine Kd.C_drewN ?_ _) | (with_reducible refine Kd.C_drew ?_))); (case side4 => exact HC0_1.out); rintro e w40 ⟨v254, rfl, ho0, hb⟩; have n0_ := Aside0.mk (Kd.R_elder' (by (with_reducible repeat (first | apply Kd.R_alloc | apply Kd.R_drewN | apply Kd.R_drew)); exact HO_7.out) (Kd.R_base ho0) hb); have n1_ := Aside0.mk (Kd.R_lower (Kd.R_new' ho0 (Kd.R_lt (by (with_reducible repeat (first | apply Kd.R_alloc | apply Kd.R_drewN | apply Kd.R_drew)); exact HO_7.out))) (below_size (by repeat (first | (with_reducible first | exact HB.out | apply below_alloc | apply pw_below_drewN | apply below_drew1 | refine below_set ?_ GE242.out) | exact HB.out)))); have n2_ := Aside0.mk (blk_below (g := gb242) (o := .cells #[.slice A0_0 l0_0.length c0_0, .slice A0_1 l0_1.length c0_1, .int .i64 a0_2] 25 (0, 0)) (by (with_reducible repeat (first | refine blk_drewN ?_ _ | refine blk_drew ?_ | refine blk_alloc ?_ _)); exact BK242.out) hb); have n3_ := Aside0.mk (below_step (by repeat (first | (with_reducible first | exact HB.out | apply below_alloc | apply pw_below_drewN | apply below_drew1 | refine below_set ?_ GE242.out) | exact HB.out)) hb); clear HO_7; clear BK242; clear HB; have HO_7 := n0_; have HO255 := n1_; have BK242 := n2_; have HB := n3_; clear n0_ n1_ n2_ n3_; (try clear hb); (try clear hb2); (try clear hk); (try clear hi); (try clear ho0); obtain ⟨Ao41, co41, eo41⟩ := Kd.R_slice HO255.out; subst eo41) | (go_at_call 15; (with_reducible refine (pacelinelaw08_same.calls k2 _ _ t250 _ _ t253 t256 _ ?side1 ?side2 ?side3 ?side4 A37.out).mono ?_); (case side1 => repeat (first | exact (Kd.R_reads' HO_7.out).2.2 | (with_reducible refine Kd.C_alloc ?_ _) | (with_reducible refine Kd.C_drewN ?_ _) | (with_reducible refine Kd.C_drew ?_))); (case side2 => exact (Kd.R_reads' HO_7.out).2.1); (case side3 => repeat (first | exact (Kd.R_reads' HO255.out).2.2 | (with_reducible refine Kd.C_alloc ?_ _) | (with_reducible refine Kd.C_drewN ?_ _) | (with_reducible refine Kd.C_drew ?_))); (case side4 => exact (Kd.R_reads' HO255.out).2.1); rintro e w' ⟨rfl, ⟨nd, rfl⟩⟩; (try first | exact ⟨rfl, _, World.drewN_drewN _ _ _⟩ | exact ⟨rfl, _, Eq.trans (World.drewN_drewN _ _ _) (congrArg (World.drewN _) (Nat.add_assoc _ _ _))⟩))); try go_wp2_with (first | (go_at_call 19; (with_reducible refine (pacelineref08_Starts.calls k2 _ _ l0_0 _ _ l0_1 a0_2 t253 _ ?side1 ?side2 ?side3 ?side4 A36.out).mono ?_); (case side1 => repeat (first | exact (Kd.C_below HR0_0.out HB.out) | (with_reducible refine Kd.C_alloc ?_ _) | (with_reducible refine Kd.C_drewN ?_ _) | (with_reducible refine Kd.C_drew ?_))); (case side2 => exact HC0_0.out); (case side3 => repeat (first | exact (Kd.C_below HR0_1.out HB.out) | (with_reducible refine Kd.C_alloc ?_ _) | (with_reducible refine Kd.C_drewN ?_ _) | (with_reducible refine Kd.C_drew ?_))); (case side4 => exact HC0_1.out); rintro e w40 ⟨v254, rfl, ho0, hb⟩; have n0_ := Aside0.mk (Kd.R_elder' (by (with_reducible repeat (first | apply Kd.R_alloc | apply Kd.R_drewN | apply Kd.R_drew)); exact HO_7.out) (Kd.R_base ho0) hb); have n1_ := Aside0.mk (Kd.R_lower (Kd.R_new' ho0 (Kd.R_lt (by (with_reducible repeat (first | apply Kd.R_alloc | apply Kd.R_drewN | apply Kd.R_drew)); exact HO_7.out))) (below_size (by repeat (first | (with_reducible first | exact HB.out | apply below_alloc | apply pw_below_drewN | apply below_drew1 | refine below_set ?_ GE242.out) | exact HB.out)))); have n2_ := Aside0.mk (blk_below (g := gb242) (o := .cells #[.slice A0_0 l0_0.length c0_0, .slice A0_1 l0_1.length c0_1, .int .i64 a0_2] 25 (0, 0)) (by (with_reducible repeat (first | refine blk_drewN ?_ _ | refine blk_drew ?_ | refine blk_alloc ?_ _)); exact BK242.out) hb); have n3_ := Aside0.mk (below_step (by repeat (first | (with_reducible first | exact HB.out | apply below_alloc | apply pw_below_drewN | apply below_drew1 | refine below_set ?_ GE242.out) | exact HB.out)) hb); clear HO_7; clear BK242; clear HB; have HO_7 := n0_; have HO255 := n1_; have BK242 := n2_; have HB := n3_; clear n0_ n1_ n2_ n3_; (try clear hb); (try clear hb2); (try clear hk); (try clear hi); (try clear ho0); obtain ⟨Ao41, co41, eo41⟩ := Kd.R_slice HO255.out; subst eo41) | (go_at_call 15; (with_reducible refine (pacelinelaw08_same.calls k2 _ _ t250 _ _ t253 t256 _ ?side1 ?side2 ?side3 ?side4 A37.out).mono ?_); (case side1 => repeat (first | exact (Kd.R_reads' HO_7.out).2.2 | (with_reducible refine Kd.C_alloc ?_ _) | (with_reducible refine Kd.C_drewN ?_ _) | (with_reducible refine Kd.C_drew ?_))); (case side2 => exact (Kd.R_reads' HO_7.out).2.1); (case side3 => repeat (first | exact (Kd.R_reads' HO255.out).2.2 | (with_reducible refine Kd.C_alloc ?_ _) | (with_reducible refine Kd.C_drewN ?_ _) | (with_reducible refine Kd.C_drew ?_))); (case side4 => exact (Kd.R_reads' HO255.out).2.1); rintro e w' ⟨rfl, ⟨nd, rfl⟩⟩; (try first | exact ⟨rfl, _, World.drewN_drewN _ _ _⟩ | exact ⟨rfl, _, Eq.trans (World.drewN_drewN _ _ _) (congrArg (World.drewN _) (Nat.add_assoc _ _ _))⟩))))
         go_ret
         exact ⟨by first | rfl | (simp [errW_none, errW_some] <;> rfl) | (simp [*, errW_none, errW_some] <;> rfl), by repeat (first | (with_reducible first | exact HB.out | apply below_alloc | apply pw_below_drewN | apply below_drew1 | refine below_set ?_ GE242.out) | exact HB.out)⟩
     ·rw [if_neg c23] at H
      have c23b0 : (t246 == 0) = false := beq_eq_false_iff_ne.mpr c23
      have c23b1 : (t246 != 0) = true := bne_iff_ne.mpr c23
      obtain rfl := Option.some.inj H
      go_wp2
      repeat (go_quiet (fail); try go_wp2)
      go_ret
      exact ⟨by first | rfl | (simp [errW_none, errW_some] <;> rfl) | (simp [*, errW_none, errW_some] <;> rfl), by repeat (first | (with_reducible first | exact HB.out | apply below_alloc | apply pw_below_drewN | apply below_drew1 | refine below_set ?_ GE242.out) | exact HB.out)⟩

/-- THE ONE PURE STATEMENT of pacelinelaw08_ConfigKeys. -/
def pacelinelaw08_ConfigKeys.Pure : Prop := ∀ (l0_0 : List Int) (l0_1 : List (S42)) (a0_2 : Int), OkAll (fun n_ => (Lit.int .i64 n_).wf = true) l0_0 → OkAll (ok42) l0_1 → (Lit.int .i64 a0_2).wf = true → ∃ k, pacelinelaw08_ConfigKeys.f k l0_0 l0_1 a0_2 = some true

end Go.Proofs.Ytdlagficilbbbaa.PConfigKeys
