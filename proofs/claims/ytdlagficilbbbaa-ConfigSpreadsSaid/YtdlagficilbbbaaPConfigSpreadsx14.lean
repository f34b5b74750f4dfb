-- Written by gp.py (this project's driver over the kit's print) out of the translation and wip/given; Lean checks it.
import Derived.Test.YtdlagficilbbbaaPConfigSpreadsx0
import Derived.Test.YtdlagficilbbbaaPConfigSpreadsx2
import Derived.Test.YtdlagficilbbbaaPConfigSpreadsx8
import Derived.Test.YtdlagficilbbbaaPConfigSpreadsx11
import Derived.Test.YtdlagficilbbbaaPConfigSpreadsx12
import Derived.Test.YtdlagficilbbbaaPConfigSpreadsx13
namespace Go.Proofs.Ytdlagficilbbbaa.PConfigSpreads
open Go.RowKit Go.Proofs.YtdlagficilbbbaaR Go.Proofs.YtdlagficilbbbaaW.PrintWords Go.Proofs.YtdlagficilbbbaaW.PrintLast Go.Proofs.YtdlagficilbbbaaW.PrintMore
attribute [local go_sem] max2_int min2_int max_two min_two max_three min_three max_four min_four   -- for this text's walks alone
set_option linter.unusedVariables false
set_option linter.unusedSimpArgs false

/-! ### pacelinelaw08_ConfigSpreads: function 4 -/
mutual
def pacelinelaw08_ConfigSpreads.j0 : Nat → Int → Int → Int → Int → List (S55) → Bool → List Int → List (S42) → Int → Option (Bool)
 | 0, _, _, _, _, _, _, _, _, _ => none
 | k + 1, x1, x2, x3, x4, x5, x34, x243000, x243001, x243002 => if x34 = true then ((pacelinelaw08_shown.f).bind fun t244 => (some t244)) else ((pacelineref08_Check.f k x243000 x243001 x243002).bind fun bt245 => (if bt245.2 = 0 then (if (x243001.length : Int) = 0 then (none) else (pacelinelaw08_ConfigSpreads.l0 k x2 x3 x4 x5 (Int.tmod (wrap64 (x1)) (x243001.length : Int)) 0 x243000 x243001 x243002)) else ((pacelinelaw08_shown.f).bind fun t247 => (some t247))))
def pacelinelaw08_ConfigSpreads.l0 : Nat → Int → Int → Int → List (S55) → Int → Int → List Int → List (S42) → Int → Option (Bool)
 | 0, _, _, _, _, _, _, _, _, _ => none
 | k + 1, x2, x3, x4, x5, x15, x16, x243000, x243001, x243002 => if x16 < (x243000.length : Int) then ((config_Routes.f x243000 x243001 x243002 x15 x16).bind fun t248 => ((pacelineref08_Routes.f k x243000 x243001 x243002 x15 x16).bind fun t251 => (if (t248.length : Int) = (t251.length : Int) then (pacelinelaw08_ConfigSpreads.l1 k x2 x3 x4 x5 x15 x16 t248 t251 0 x243000 x243001 x243002) else (some false)))) else ((config_Spread.f k x243000 x243001 x243002 x15 x2 x3 x4 x5).bind fun t256 => ((pacelineref08_Spread.f k x243000 x243001 x243002 x15 x2 x3 x4 x5).bind fun t259 => ((pacelinelaw08_same.f k t256 t259).bind fun t262 => (if t262 = true then ((config_Starts.f k x243000 x243001 x243002).bind fun t263 => ((pacelineref08_Starts.f k x243000 x243001 x243002).bind fun t266 => ((pacelinelaw08_same.f k t263 t266).bind fun t269 => (if t269 = true then ((pacelinelaw08_shown.f).bind fun t270 => (some t270)) else (some false))))) else (some false)))))
def pacelinelaw08_ConfigSpreads.l1 : Nat → Int → Int → Int → List (S55) → Int → Int → List Int → List Int → Int → List Int → List (S42) → Int → Option (Bool)
 | 0, _, _, _, _, _, _, _, _, _, _, _, _ => none
 | k + 1, x2, x3, x4, x5, x15, x16, x17, x18, x19, x243000, x243001, x243002 => if x19 < (x17.length : Int) then (if 0 ≤ x19 then (if x19 < (x18.length : Int) then (if (rd x17 x19) = (rd x18 x19) then (pacelinelaw08_ConfigSpreads.l1 k x2 x3 x4 x5 x15 x16 x17 x18 (wrap64 (x19 + 1)) x243000 x243001 x243002) else (some false)) else (none)) else (none)) else (pacelinelaw08_ConfigSpreads.l0 k x2 x3 x4 x5 x15 (wrap64 (x16 + 1)) x243000 x243001 x243002)
end
def pacelinelaw08_ConfigSpreads.f (k : Nat) (l0_0 : List Int) (l0_1 : List (S42)) (a0_2 : Int) (a1 : Int) (a2 : Int) (a3 : Int) (a4 : Int) (l5 : List (S55)) : Option (Bool) := (pacelinelaw08_heavy.f k l0_0 l0_1 a0_2).bind fun t243 => (if t243 = true then (pacelinelaw08_ConfigSpreads.j0 k a1 a2 a3 a4 l5 true l0_0 l0_1 a0_2) else (if (l5.length : Int) > 20 then (pacelinelaw08_ConfigSpreads.j0 k a1 a2 a3 a4 l5 true l0_0 l0_1 a0_2) else (if a2 < 0 then (pacelinelaw08_ConfigSpreads.j0 k a1 a2 a3 a4 l5 true l0_0 l0_1 a0_2) else (pacelinelaw08_ConfigSpreads.j0 k a1 a2 a3 a4 l5 (decide (a2 > 1099511627776)) l0_0 l0_1 a0_2))))
theorem pacelinelaw08_ConfigSpreads.mono_l : ∀ k, (∀ y0 y1 y2 y3 y4 y5 y6 y7 y8, LeO (pacelinelaw08_ConfigSpreads.j0 k y0 y1 y2 y3 y4 y5 y6 y7 y8) (pacelinelaw08_ConfigSpreads.j0 (k + 1) y0 y1 y2 y3 y4 y5 y6 y7 y8)) ∧ (∀ y0 y1 y2 y3 y4 y5 y6 y7 y8, LeO (pacelinelaw08_ConfigSpreads.l0 k y0 y1 y2 y3 y4 y5 y6 y7 y8) (pacelinelaw08_ConfigSpreads.l0 (k + 1) y0 y1 y2 y3 y4 y5 y6 y7 y8)) ∧ (∀ y0 y1 y2 y3 y4 y5 y6 y7 y8 y9 y10 y11, LeO (pacelinelaw08_ConfigSpreads.l1 k y0 y1 y2 y3 y4 y5 y6 y7 y8 y9 y10 y11) (pacelinelaw08_ConfigSpreads.l1 (k + 1) y0 y1 y2 y3 y4 y5 y6 y7 y8 y9 y10 y11))
 | 0 => ⟨fun _ _ _ _ _ _ _ _ _ r h => by simp [pacelinelaw08_ConfigSpreads.j0] at h, fun _ _ _ _ _ _ _ _ _ r h => by simp [pacelinelaw08_ConfigSpreads.l0] at h, fun _ _ _ _ _ _ _ _ _ _ _ _ r h => by simp [pacelinelaw08_ConfigSpreads.l1] at h⟩
 | k + 1 => by
  obtain ⟨ih0, ih1, ih2⟩ := pacelinelaw08_ConfigSpreads.mono_l k
  refine ⟨?_, ?_, ?_⟩
  ·intro y0 y1 y2 y3 y4 y5 y6 y7 y8
   unfold pacelinelaw08_ConfigSpreads.j0
   repeat' first
   | (with_reducible exact ih0 _ _ _ _ _ _ _ _ _)
   | (with_reducible exact ih1 _ _ _ _ _ _ _ _ _)
   | (with_reducible exact ih2 _ _ _ _ _ _ _ _ _ _ _ _)
   | (with_reducible exact config_Spread.mono _ _ _ _ _ _ _ _ _)
   | (with_reducible exact config_Starts.mono _ _ _ _)
   | (with_reducible exact pacelinelaw08_heavy.mono _ _ _ _)
   | (with_reducible exact pacelinelaw08_same.mono _ _ _)
   | (with_reducible exact pacelineref08_Check.mono _ _ _ _)
   | (with_reducible exact pacelineref08_Routes.mono _ _ _ _ _ _)
   | (with_reducible exact pacelineref08_Spread.mono _ _ _ _ _ _ _ _ _)
   | (with_reducible exact pacelineref08_Starts.mono _ _ _ _)
   | (with_reducible exact LeO.refl _)
   | (with_reducible exact LeO.none _)
   | (with_reducible refine LeO.ite ?_ ?_)
   | (with_reducible refine LeO.bind ?_ (fun _ => ?_))
   | exact ih0 _ _ _ _ _ _ _ _ _
   | exact ih1 _ _ _ _ _ _ _ _ _
   | exact ih2 _ _ _ _ _ _ _ _ _ _ _ _
   | exact config_Spread.mono _ _ _ _ _ _ _ _ _
   | exact config_Starts.mono _ _ _ _
   | exact pacelinelaw08_heavy.mono _ _ _ _
   | exact pacelinelaw08_same.mono _ _ _
   | exact pacelineref08_Check.mono _ _ _ _
   | exact pacelineref08_Routes.mono _ _ _ _ _ _
   | exact pacelineref08_Spread.mono _ _ _ _ _ _ _ _ _
   | exact pacelineref08_Starts.mono _ _ _ _
   | exact LeO.none _
   | refine LeO.ite ?_ ?_
   | refine LeO.bind ?_ (fun _ => ?_)
  ·intro y0 y1 y2 y3 y4 y5 y6 y7 y8
   unfold pacelinelaw08_ConfigSpreads.l0
   repeat' first
   | (with_reducible exact ih0 _ _ _ _ _ _ _ _ _)
   | (with_reducible exact ih1 _ _ _ _ _ _ _ _ _)
   | (with_reducible exact ih2 _ _ _ _ _ _ _ _ _ _ _ _)
   | (with_reducible exact config_Spread.mono _ _ _ _ _ _ _ _ _)
   | (with_reducible exact config_Starts.mono _ _ _ _)
   | (with_reducible exact pacelinelaw08_heavy.mono _ _ _ _)
   | (with_reducible exact pacelinelaw08_same.mono _ _ _)
   | (with_reducible exact pacelineref08_Check.mono _ _ _ _)
   | (with_reducible exact pacelineref08_Routes.mono _ _ _ _ _ _)
   | (with_reducible exact pacelineref08_Spread.mono _ _ _ _ _ _ _ _ _)
   | (with_reducible exact pacelineref08_Starts.mono _ _ _ _)
   | (with_reducible exact LeO.refl _)
   | (with_reducible exact LeO.none _)
   | (with_reducible refine LeO.ite ?_ ?_)
   | (with_reducible refine LeO.bind ?_ (fun _ => ?_))
   | exact ih0 _ _ _ _ _ _ _ _ _
   | exact ih1 _ _ _ _ _ _ _ _ _
   | exact ih2 _ _ _ _ _ _ _ _ _ _ _ _
   | exact config_Spread.mono _ _ _ _ _ _ _ _ _
   | exact config_Starts.mono _ _ _ _
   | exact pacelinelaw08_heavy.mono _ _ _ _
   | exact pacelinelaw08_same.mono _ _ _
   | exact pacelineref08_Check.mono _ _ _ _
   | exact pacelineref08_Routes.mono _ _ _ _ _ _
   | exact pacelineref08_Spread.mono _ _ _ _ _ _ _ _ _
   | exact pacelineref08_Starts.mono _ _ _ _
   | exact LeO.none _
   | refine LeO.ite ?_ ?_
   | refine LeO.bind ?_ (fun _ => ?_)
  ·intro y0 y1 y2 y3 y4 y5 y6 y7 y8 y9 y10 y11
   unfold pacelinelaw08_ConfigSpreads.l1
   repeat' first
   | (with_reducible exact ih0 _ _ _ _ _ _ _ _ _)
   | (with_reducible exact ih1 _ _ _ _ _ _ _ _ _)
   | (with_reducible exact ih2 _ _ _ _ _ _ _ _ _ _ _ _)
   | (with_reducible exact config_Spread.mono _ _ _ _ _ _ _ _ _)
   | (with_reducible exact config_Starts.mono _ _ _ _)
   | (with_reducible exact pacelinelaw08_heavy.mono _ _ _ _)
   | (with_reducible exact pacelinelaw08_same.mono _ _ _)
   | (with_reducible exact pacelineref08_Check.mono _ _ _ _)
   | (with_reducible exact pacelineref08_Routes.mono _ _ _ _ _ _)
   | (with_reducible exact pacelineref08_Spread.mono _ _ _ _ _ _ _ _ _)
   | (with_reducible exact pacelineref08_Starts.mono _ _ _ _)
   | (with_reducible exact LeO.refl _)
   | (with_reducible exact LeO.none _)
   | (with_reducible refine LeO.ite ?_ ?_)
   | (with_reducible refine LeO.bind ?_ (fun _ => ?_))
   | exact ih0 _ _ _ _ _ _ _ _ _
   | exact ih1 _ _ _ _ _ _ _ _ _
   | exact ih2 _ _ _ _ _ _ _ _ _ _ _ _
   | exact config_Spread.mono _ _ _ _ _ _ _ _ _
   | exact config_Starts.mono _ _ _ _
   | exact pacelinelaw08_heavy.mono _ _ _ _
   | exact pacelinelaw08_same.mono _ _ _
   | exact pacelineref08_Check.mono _ _ _ _
   | exact pacelineref08_Routes.mono _ _ _ _ _ _
   | exact pacelineref08_Spread.mono _ _ _ _ _ _ _ _ _
   | exact pacelineref08_Starts.mono _ _ _ _
   | exact LeO.none _
   | refine LeO.ite ?_ ?_
   | refine LeO.bind ?_ (fun _ => ?_)
theorem pacelinelaw08_ConfigSpreads.mono : ∀ a0 a1 a2 a3 a4 a5 a6 a7 k, LeO (pacelinelaw08_ConfigSpreads.f k a0 a1 a2 a3 a4 a5 a6 a7) (pacelinelaw08_ConfigSpreads.f (k + 1) a0 a1 a2 a3 a4 a5 a6 a7) := by
 intro a0 a1 a2 a3 a4 a5 a6 a7 k
 obtain ⟨ih0, ih1, ih2⟩ := pacelinelaw08_ConfigSpreads.mono_l k
 unfold pacelinelaw08_ConfigSpreads.f
 repeat' first
   | (with_reducible exact ih0 _ _ _ _ _ _ _ _ _)
   | (with_reducible exact ih1 _ _ _ _ _ _ _ _ _)
   | (with_reducible exact ih2 _ _ _ _ _ _ _ _ _ _ _ _)
   | (with_reducible exact config_Spread.mono _ _ _ _ _ _ _ _ _)
   | (with_reducible exact config_Starts.mono _ _ _ _)
   | (with_reducible exact pacelinelaw08_heavy.mono _ _ _ _)
   | (with_reducible exact pacelinelaw08_same.mono _ _ _)
   | (with_reducible exact pacelineref08_Check.mono _ _ _ _)
   | (with_reducible exact pacelineref08_Routes.mono _ _ _ _ _ _)
   | (with_reducible exact pacelineref08_Spread.mono _ _ _ _ _ _ _ _ _)
   | (with_reducible exact pacelineref08_Starts.mono _ _ _ _)
   | (with_reducible exact LeO.refl _)
   | (with_reducible exact LeO.none _)
   | (with_reducible refine LeO.ite ?_ ?_)
   | (with_reducible refine LeO.bind ?_ (fun _ => ?_))
   | exact ih0 _ _ _ _ _ _ _ _ _
   | exact ih1 _ _ _ _ _ _ _ _ _
   | exact ih2 _ _ _ _ _ _ _ _ _ _ _ _
   | exact config_Spread.mono _ _ _ _ _ _ _ _ _
   | exact config_Starts.mono _ _ _ _
   | exact pacelinelaw08_heavy.mono _ _ _ _
   | exact pacelinelaw08_same.mono _ _ _
   | exact pacelineref08_Check.mono _ _ _ _
   | exact pacelineref08_Routes.mono _ _ _ _ _ _
   | exact pacelineref08_Spread.mono _ _ _ _ _ _ _ _ _
   | exact pacelineref08_Starts.mono _ _ _ _
   | exact LeO.none _
   | refine LeO.ite ?_ ?_
   | refine LeO.bind ?_ (fun _ => ?_)
def pacelinelaw08_ConfigSpreads.T17 : Bool × List (List Nat × List Nat) := (true, [([], []), ([], []), ([0, 1], [0, 1]), ([2], [2]), ([], []), ([], []), ([4, 5], [4, 5]), ([6], [6]), ([3, 7], [3, 7])])
def pacelinelaw08_ConfigSpreads.B17 : List Nat := [0, 0, 3, 7, 0, 0, 48, 112, 255]
theorem pacelinelaw08_ConfigSpreads.tab17 : rtab .any (opsOf Try.f4 17) = pacelinelaw08_ConfigSpreads.T17 := by kernel_rfl
theorem pacelinelaw08_ConfigSpreads.bits17 : waitsOk pacelinelaw08_ConfigSpreads.T17.2 pacelinelaw08_ConfigSpreads.B17 = true := by kernel_rfl
def pacelinelaw08_ConfigSpreads.T19 : Bool × List (List Nat × List Nat) := (true, [([], []), ([], []), ([], []), ([], []), ([], []), ([], []), ([0, 1, 2, 3, 4, 5], [0, 1, 2, 3, 4, 5]), ([], []), ([], []), ([], []), ([], []), ([], []), ([], []), ([7, 8, 9, 10, 11, 12, 6], [7, 8, 9, 10, 11, 12]), ([6, 13, 13], [6, 13]), ([14, 14], [14]), ([15], [15]), ([16, 15, 15], [15, 16]), ([15], [15]), ([18, 17, 15], [15, 18]), ([17, 19, 19, 15], [15, 17, 19]), ([15, 20], [15, 20]), ([21, 20], [21]), ([22, 22], [22]), ([22, 23], [22, 23]), ([24, 23, 0, 1, 2, 3, 4, 5, 6, 7, 8, 9, 10, 11, 12, 13, 14, 15, 16, 17, 18, 19, 20, 21, 22, 23, 24], [24])])
def pacelinelaw08_ConfigSpreads.B19 : List Nat := [0, 0, 0, 0, 0, 0, 63, 0, 0, 0, 0, 0, 0, 8191, 16383, 32767, 65535, 131071, 65535, 524287, 1048575, 2097151, 4194303, 8388607, 16777215, 33554431]
theorem pacelinelaw08_ConfigSpreads.tab19 : rtab .any (opsOf Try.f4 19) = pacelinelaw08_ConfigSpreads.T19 := by kernel_rfl
theorem pacelinelaw08_ConfigSpreads.bits19 : waitsOk pacelinelaw08_ConfigSpreads.T19.2 pacelinelaw08_ConfigSpreads.B19 = true := by kernel_rfl
set_option maxHeartbeats 8000000 in
set_option maxRecDepth 100000 in
theorem pacelinelaw08_ConfigSpreads.calls (k : Nat) (A0_0 : Option Addr) (c0_0 : Nat) (l0_0 : List Int) (A0_1 : Option Addr) (c0_1 : Nat) (l0_1 : List (S42)) (a0_2 : Int) (a1 : Int) (a2 : Int) (a3 : Int) (a4 : Int) (A5 : Option Addr) (c5 : Nat) (l5 : List (S55)) (r : Bool) (w : World) (hr0_0 : Kd.C (Kd.int .i64) w A0_0 l0_0.length l0_0) (hc0_0 : l0_0.length ≤ c0_0) (hr0_1 : Kd.C k42 w A0_1 l0_1.length l0_1) (hc0_1 : l0_1.length ≤ c0_1) (hr5 : Kd.C k55 w A5 l5.length l5) (hc5 : l5.length ≤ c5) (h : pacelinelaw08_ConfigSpreads.f k l0_0 l0_1 a0_2 a1 a2 a3 a4 l5 = some r) :
  Calls Try.prog 4 #[.agg #[.slice A0_0 l0_0.length c0_0, .slice A0_1 l0_1.length c0_1, .int .i64 a0_2], .int .u8 a1, .int .i64 a2, .int .i64 a3, .int .i64 a4, .slice A5 l5.length c5] w fun e w' => e = .returned (.bool r) ∧ Below w.heap.size w w' := by
 have hu25 := Try.underlying25
 have HR0_0 := Aside0.mk hr0_0
 have HC0_0 := Aside0.mk hc0_0
 clear hr0_0 hc0_0
 have HR0_1 := Aside0.mk hr0_1
 have HC0_1 := Aside0.mk hc0_1
 clear hr0_1 hc0_1
 have HR5 := Aside0.mk hr5
 have HC5 := Aside0.mk hc5
 clear hr5 hc5
 have HB := Aside0.mk (Below.refl w.heap.size w)
 have H : ((pacelinelaw08_heavy.f k l0_0 l0_1 a0_2).bind fun t243 => (if t243 = true then (pacelinelaw08_ConfigSpreads.j0 k a1 a2 a3 a4 l5 true l0_0 l0_1 a0_2) else (if (l5.length : Int) > 20 then (pacelinelaw08_ConfigSpreads.j0 k a1 a2 a3 a4 l5 true l0_0 l0_1 a0_2) else (if a2 < 0 then (pacelinelaw08_ConfigSpreads.j0 k a1 a2 a3 a4 l5 true l0_0 l0_1 a0_2) else (pacelinelaw08_ConfigSpreads.j0 k a1 a2 a3 a4 l5 (decide (a2 > 1099511627776)) l0_0 l0_1 a0_2))))) = some r := h
 clear h
 have HC7 := Aside0.mk H
 clear H
 go_enter Try.func4, Try.ntmps4
 go_upto_region 1 with (first | ((with_reducible refine gate_dst (N := 6) rfl ?_); (try (refine gate_guard (by rfl) ?_; dsimp only)); refine box_event ?hg (N := 6) ?hd (cs := #[.slice A0_0 l0_0.length c0_0, .slice A0_1 l0_1.length c0_1, .int .i64 a0_2]) (t := 25) ?hr ?_; (case hd => rfl); (case hg => rfl); (case hr => first | (go_simp; done) | (go_simp; rfl)); intro gb242 hg w8 hbox hb; have n0_ := Aside0.mk (below_step (by repeat (first | (with_reducible first | exact HB.out | apply below_alloc | apply pw_below_drewN | apply below_drew1) | exact HB.out)) hb); have n1_ := Aside0.mk (hbox); have n2_ := Aside0.mk ((by rw [hg]; exact (below_size (by repeat (first | (with_reducible first | exact HB.out | apply below_alloc | apply pw_below_drewN | apply below_drew1) | exact HB.out))) : w.heap.size ≤ gb242)); have n3_ := Aside0.mk ((by rw [hg]; exact (below_size (by repeat (first | (with_reducible first | exact HB.out | apply below_alloc | apply pw_below_drewN | apply below_drew1) | exact HB.out))) : w.heap.size ≤ gb242)); clear HB; have HB := n0_; have BK242 := n1_; have GW242 := n2_; have GE242 := n3_; clear n0_ n1_ n2_ n3_; clear hb hbox hg))
 (try simp only [Act.put, List.setIfInBounds_toArray, List.set_cons_zero, List.set_cons_succ])
 go_cut [34] (fun v34 wc => ∃ (kq : Nat) (x34_6 : Bool), v34 = .bool x34_6 ∧ Aside0 (pacelinelaw08_ConfigSpreads.j0 kq a1 a2 a3 a4 l5 x34_6 l0_0 l0_1 a0_2 = some r) ∧ Aside0 (kq ≤ k) ∧ Aside0 (wc.heap[gb242]? = some (.cells #[(.slice A0_0 l0_0.length c0_0), (.slice A0_1 l0_1.length c0_1), .int .i64 a0_2] 25 (0, 0))) ∧ Aside0 (Below w.heap.size w wc))
 case first =>
  have H := HC7.out
  clear HC7
  replace H := Option.bind_eq_some_iff.mp H
  obtain ⟨t243, A90, H⟩ := H
  replace H : (if t243 = true then (pacelinelaw08_ConfigSpreads.j0 k a1 a2 a3 a4 l5 true l0_0 l0_1 a0_2) else (if (l5.length : Int) > 20 then (pacelinelaw08_ConfigSpreads.j0 k a1 a2 a3 a4 l5 true l0_0 l0_1 a0_2) else (if a2 < 0 then (pacelinelaw08_ConfigSpreads.j0 k a1 a2 a3 a4 l5 true l0_0 l0_1 a0_2) else (pacelinelaw08_ConfigSpreads.j0 k a1 a2 a3 a4 l5 (decide (a2 > 1099511627776)) l0_0 l0_1 a0_2)))) = some r := H
  have A9 := Aside0.mk A90
  clear A90
  by_cases c10 : t243 = true
  ·subst c10
   have H1 : (pacelinelaw08_ConfigSpreads.j0 k a1 a2 a3 a4 l5 true l0_0 l0_1 a0_2) = some r := by rw [if_pos rfl] at H; exact H
   clear H
   have H := H1
   clear H1
   have H' := Aside0.mk H
   clear H
   have hcz11_0 : w8.cell? ⟨gb242, 0, none⟩ = some (.slice A0_0 l0_0.length c0_0) := (blk_cell BK242.out 0).trans rfl
   have hcz11_1 : w8.cell? ⟨gb242, 1, none⟩ = some (.slice A0_1 l0_1.length c0_1) := (blk_cell BK242.out 1).trans rfl
   have hcz11_2 : w8.cell? ⟨gb242, 2, none⟩ = some (.int .i64 a0_2) := (blk_cell BK242.out 2).trans rfl
   have hfz11_0 := blk_frozen BK242.out 0
   have hfz11_1 := blk_frozen BK242.out 1
   have hfz11_2 := blk_frozen BK242.out 2
   go_wp2_with (first | ((with_reducible refine gate_callee (f := 9) rfl ?_); refine goesL_ (some 21) rfl rfl Try.func9 (by kernel_rfl) rfl #[.agg #[.slice A0_0 l0_0.length c0_0, .slice A0_1 l0_1.length c0_1, .int .i64 a0_2]] rfl (by (try simp only [List.map_toArray, List.map_cons, List.map_nil]); first | done | rfl | (simp only [List.length_drop, List.length_take]; rfl)) ?_; (with_reducible refine (pacelinelaw08_heavy.calls k _ _ l0_0 _ _ l0_1 a0_2 true _ ?side1 ?side2 ?side3 ?side4 A9.out).mono ?_); (case side1 => repeat (first | exact (Kd.C_below HR0_0.out HB.out) | (with_reducible refine Kd.C_alloc ?_ _) | (with_reducible refine Kd.C_drewN ?_ _) | (with_reducible refine Kd.C_drew ?_))); (case side2 => exact HC0_0.out); (case side3 => repeat (first | exact (Kd.C_below HR0_1.out HB.out) | (with_reducible refine Kd.C_alloc ?_ _) | (with_reducible refine Kd.C_drewN ?_ _) | (with_reducible refine Kd.C_drew ?_))); (case side4 => exact HC0_1.out); rintro e w12 ⟨rfl, hb⟩; refine ⟨_, rfl, ?_⟩; have n0_ := Aside0.mk (blk_below (g := gb242) (o := .cells #[.slice A0_0 l0_0.length c0_0, .slice A0_1 l0_1.length c0_1, .int .i64 a0_2] 25 (0, 0)) (by (with_reducible repeat (first | refine blk_drewN ?_ _ | refine blk_drew ?_ | refine blk_alloc ?_ _)); exact BK242.out) hb); have n1_ := Aside0.mk (below_step (by repeat (first | (with_reducible first | exact HB.out | apply below_alloc | apply pw_below_drewN | apply below_drew1 | refine below_set ?_ GE242.out) | exact HB.out)) hb); clear BK242; clear HB; have BK242 := n0_; have HB := n1_; clear n0_ n1_; (try clear hb); (try clear hb2); (try clear hk); (try clear hi)))
   go_meet
   case rel => exact ⟨_, (true), (by first | rfl | (simp; done) | (simp [*]; done)), H', ⟨by first | omega | exact Nat.le_refl _⟩, ⟨by (with_reducible repeat (first | refine blk_drewN ?_ _ | refine blk_drew ?_ | refine blk_alloc ?_ _)); exact BK242.out⟩, ⟨by repeat (first | (with_reducible first | exact HB.out | apply below_alloc | apply pw_below_drewN | apply below_drew1 | refine below_set ?_ GE242.out) | exact HB.out)⟩⟩
  ·replace c10 := Bool.eq_false_iff.mpr c10
   subst c10
   have H1 : (if (l5.length : Int) > 20 then (pacelinelaw08_ConfigSpreads.j0 k a1 a2 a3 a4 l5 true l0_0 l0_1 a0_2) else (if a2 < 0 then (pacelinelaw08_ConfigSpreads.j0 k a1 a2 a3 a4 l5 true l0_0 l0_1 a0_2) else (pacelinelaw08_ConfigSpreads.j0 k a1 a2 a3 a4 l5 (decide (a2 > 1099511627776)) l0_0 l0_1 a0_2))) = some r := by rw [if_neg (show ¬ (false = true) by decide)] at H; exact H
   clear H
   have H := H1
   clear H1
   by_cases c13 : (l5.length : Int) > 20
   ·rw [if_pos c13] at H
    have c13b0 : decide (20 < (l5.length : Int)) = true := decide_eq_true c13
    have c13b1 : decide (20 < l5.length) = true := decide_eq_true (by omega)
    clear c13
    (first | rw [c13b0] | (simp only [i64_w, i32_w]; rw [c13b0]) | skip)
    have H' := Aside0.mk H
    clear H
    have hcz14_0 : w8.cell? ⟨gb242, 0, none⟩ = some (.slice A0_0 l0_0.length c0_0) := (blk_cell BK242.out 0).trans rfl
    have hcz14_1 : w8.cell? ⟨gb242, 1, none⟩ = some (.slice A0_1 l0_1.length c0_1) := (blk_cell BK242.out 1).trans rfl
    have hcz14_2 : w8.cell? ⟨gb242, 2, none⟩ = some (.int .i64 a0_2) := (blk_cell BK242.out 2).trans rfl
    have hfz14_0 := blk_frozen BK242.out 0
    have hfz14_1 := blk_frozen BK242.out 1
    have hfz14_2 := blk_frozen BK242.out 2
    go_wp2_with (first | ((with_reducible refine gate_callee (f := 9) rfl ?_); refine goesL_ (some 21) rfl rfl Try.func9 (by kernel_rfl) rfl #[.agg #[.slice A0_0 l0_0.length c0_0, .slice A0_1 l0_1.length c0_1, .int .i64 a0_2]] rfl (by (try simp only [List.map_toArray, List.map_cons, List.map_nil]); first | done | rfl | (simp only [List.length_drop, List.length_take]; rfl)) ?_; (with_reducible refine (pacelinelaw08_heavy.calls k _ _ l0_0 _ _ l0_1 a0_2 false _ ?side1 ?side2 ?side3 ?side4 A9.out).mono ?_); (case side1 => repeat (first | exact (Kd.C_below HR0_0.out HB.out) | (with_reducible refine Kd.C_alloc ?_ _) | (with_reducible refine Kd.C_drewN ?_ _) | (with_reducible refine Kd.C_drew ?_))); (case side2 => exact HC0_0.out); (case side3 => repeat (first | exact (Kd.C_below HR0_1.out HB.out) | (with_reducible refine Kd.C_alloc ?_ _) | (with_reducible refine Kd.C_drewN ?_ _) | (with_reducible refine Kd.C_drew ?_))); (case side4 => exact HC0_1.out); rintro e w15 ⟨rfl, hb⟩; refine ⟨_, rfl, ?_⟩; have n0_ := Aside0.mk (blk_below (g := gb242) (o := .cells #[.slice A0_0 l0_0.length c0_0, .slice A0_1 l0_1.length c0_1, .int .i64 a0_2] 25 (0, 0)) (by (with_reducible repeat (first | refine blk_drewN ?_ _ | refine blk_drew ?_ | refine blk_alloc ?_ _)); exact BK242.out) hb); have n1_ := Aside0.mk (below_step (by repeat (first | (with_reducible first | exact HB.out | apply below_alloc | apply pw_below_drewN | apply below_drew1 | refine below_set ?_ GE242.out) | exact HB.out)) hb); clear BK242; clear HB; have BK242 := n0_; have HB := n1_; clear n0_ n1_; (try clear hb); (try clear hb2); (try clear hk); (try clear hi)))
    go_meet
    case rel => exact ⟨_, (true), (by first | rfl | (simp; done) | (simp [*]; done)), H', ⟨by first | omega | exact Nat.le_refl _⟩, ⟨by (with_reducible repeat (first | refine blk_drewN ?_ _ | refine blk_drew ?_ | refine blk_alloc ?_ _)); exact BK242.out⟩, ⟨by repeat (first | (with_reducible first | exact HB.out | apply below_alloc | apply pw_below_drewN | apply below_drew1 | refine below_set ?_ GE242.out) | exact HB.out)⟩⟩
   ·rw [if_neg c13] at H
    have c13b0 : decide (20 < (l5.length : Int)) = false := decide_eq_false c13
    have c13b1 : decide (20 < l5.length) = false := decide_eq_false (by omega)
    clear c13
    (first | rw [c13b0] | (simp only [i64_w, i32_w]; rw [c13b0]) | skip)
    by_cases c16 : a2 < 0
    ·rw [if_pos c16] at H
     have c16b0 : decide (a2 < 0) = true := decide_eq_true c16
     clear c16
     have H' := Aside0.mk H
     clear H
     have hcz17_0 : w8.cell? ⟨gb242, 0, none⟩ = some (.slice A0_0 l0_0.length c0_0) := (blk_cell BK242.out 0).trans rfl
     have hcz17_1 : w8.cell? ⟨gb242, 1, none⟩ = some (.slice A0_1 l0_1.length c0_1) := (blk_cell BK242.out 1).trans rfl
     have hcz17_2 : w8.cell? ⟨gb242, 2, none⟩ = some (.int .i64 a0_2) := (blk_cell BK242.out 2).trans rfl
     have hfz17_0 := blk_frozen BK242.out 0
     have hfz17_1 := blk_frozen BK242.out 1
     have hfz17_2 := blk_frozen BK242.out 2
     go_wp2_with (first | ((with_reducible refine gate_callee (f := 9) rfl ?_); refine goesL_ (some 21) rfl rfl Try.func9 (by kernel_rfl) rfl #[.agg #[.slice A0_0 l0_0.length c0_0, .slice A0_1 l0_1.length c0_1, .int .i64 a0_2]] rfl (by (try simp only [List.map_toArray, List.map_cons, List.map_nil]); first | done | rfl | (simp only [List.length_drop, List.length_take]; rfl)) ?_; (with_reducible refine (pacelinelaw08_heavy.calls k _ _ l0_0 _ _ l0_1 a0_2 false _ ?side1 ?side2 ?side3 ?side4 A9.out).mono ?_); (case side1 => repeat (first | exact (Kd.C_below HR0_0.out HB.out) | (with_reducible refine Kd.C_alloc ?_ _) | (with_reducible refine Kd.C_drewN ?_ _) | (with_reducible refine Kd.C_drew ?_))); (case side2 => exact HC0_0.out); (case side3 => repeat (first | exact (Kd.C_below HR0_1.out HB.out) | (with_reducible refine Kd.C_alloc ?_ _) | (with_reducible refine Kd.C_drewN ?_ _) | (with_reducible refine Kd.C_drew ?_))); (case side4 => exact HC0_1.out); rintro e w18 ⟨rfl, hb⟩; refine ⟨_, rfl, ?_⟩; have n0_ := Aside0.mk (blk_below (g := gb242) (o := .cells #[.slice A0_0 l0_0.length c0_0, .slice A0_1 l0_1.length c0_1, .int .i64 a0_2] 25 (0, 0)) (by (with_reducible repeat (first | refine blk_drewN ?_ _ | refine blk_drew ?_ | refine blk_alloc ?_ _)); exact BK242.out) hb); have n1_ := Aside0.mk (below_step (by repeat (first | (with_reducible first | exact HB.out | apply below_alloc | apply pw_below_drewN | apply below_drew1 | refine below_set ?_ GE242.out) | exact HB.out)) hb); clear BK242; clear HB; have BK242 := n0_; have HB := n1_; clear n0_ n1_; (try clear hb); (try clear hb2); (try clear hk); (try clear hi)))
     go_meet
     case rel => exact ⟨_, (true), (by first | rfl | (simp; done) | (simp [*]; done)), H', ⟨by first | omega | exact Nat.le_refl _⟩, ⟨by (with_reducible repeat (first | refine blk_drewN ?_ _ | refine blk_drew ?_ | refine blk_alloc ?_ _)); exact BK242.out⟩, ⟨by repeat (first | (with_reducible first | exact HB.out | apply below_alloc | apply pw_below_drewN | apply below_drew1 | refine below_set ?_ GE242.out) | exact HB.out)⟩⟩
    ·rw [if_neg c16] at H
     have c16b0 : decide (a2 < 0) = false := decide_eq_false c16
     clear c16
     have H' := Aside0.mk H
     clear H
     have hcz19_0 : w8.cell? ⟨gb242, 0, none⟩ = some (.slice A0_0 l0_0.length c0_0) := (blk_cell BK242.out 0).trans rfl
     have hcz19_1 : w8.cell? ⟨gb242, 1, none⟩ = some (.slice A0_1 l0_1.length c0_1) := (blk_cell BK242.out 1).trans rfl
     have hcz19_2 : w8.cell? ⟨gb242, 2, none⟩ = some (.int .i64 a0_2) := (blk_cell BK242.out 2).trans rfl
     have hfz19_0 := blk_frozen BK242.out 0
     have hfz19_1 := blk_frozen BK242.out 1
     have hfz19_2 := blk_frozen BK242.out 2
     go_wp2_with (first | ((with_reducible refine gate_callee (f := 9) rfl ?_); refine goesL_ (some 21) rfl rfl Try.func9 (by kernel_rfl) rfl #[.agg #[.slice A0_0 l0_0.length c0_0, .slice A0_1 l0_1.length c0_1, .int .i64 a0_2]] rfl (by (try simp only [List.map_toArray, List.map_cons, List.map_nil]); first | done | rfl | (simp only [List.length_drop, List.length_take]; rfl)) ?_; (with_reducible refine (pacelinelaw08_heavy.calls k _ _ l0_0 _ _ l0_1 a0_2 false _ ?side1 ?side2 ?side3 ?side4 A9.out).mono ?_); (case side1 => repeat (first | exact (Kd.C_below HR0_0.out HB.out) | (with_reducible refine Kd.C_alloc ?_ _) | (with_reducible refine Kd.C_drewN ?_ _) | (with_reducible refine Kd.C_drew ?_))); (case side2 => exact HC0_0.out); (case side3 => repeat (first | exact (Kd.C_below HR0_1.out HB.out) | (with_reducible refine Kd.C_alloc ?_ _) | (with_reducible refine Kd.C_drewN ?_ _) | (with_reducible refine Kd.C_drew ?_))); (case side4 => exact HC0_1.out); rintro e w20 ⟨rfl, hb⟩; refine ⟨_, rfl, ?_⟩; have n0_ := Aside0.mk (blk_below (g := gb242) (o := .cells #[.slice A0_0 l0_0.length c0_0, .slice A0_1 l0_1.length c0_1, .int .i64 a0_2] 25 (0, 0)) (by (with_reducible repeat (first | refine blk_drewN ?_ _ | refine blk_drew ?_ | refine blk_alloc ?_ _)); exact BK242.out) hb); have n1_ := Aside0.mk (below_step (by repeat (first | (with_reducible first | exact HB.out | apply below_alloc | apply pw_below_drewN | apply below_drew1 | refine below_set ?_ GE242.out) | exact HB.out)) hb); clear BK242; clear HB; have BK242 := n0_; have HB := n1_; clear n0_ n1_; (try clear hb); (try clear hb2); (try clear hk); (try clear hi)))
     go_meet
     case rel => exact ⟨_, (decide (a2 > 1099511627776)), (by first | rfl | (simp; done) | (simp [*]; done)), H', ⟨by first | omega | exact Nat.le_refl _⟩, ⟨by (with_reducible repeat (first | refine blk_drewN ?_ _ | refine blk_drew ?_ | refine blk_alloc ?_ _)); exact BK242.out⟩, ⟨by repeat (first | (with_reducible first | exact HB.out | apply below_alloc | apply pw_below_drewN | apply below_drew1 | refine below_set ?_ GE242.out) | exact HB.out)⟩⟩
 case rest =>
  clear HC7
  try clear c1
  try clear p2
  try clear c4
  try clear c5
  try clear c9
  try clear c10
  try clear c13
  try clear c13b0
  try clear c13b1
  try clear c16
  try clear c16b0
  try clear hcz11_0
  try clear hcz11_1
  try clear hcz11_2
  try clear hcz14_0
  try clear hcz14_1
  try clear hcz14_2
  try clear hcz17_0
  try clear hcz17_1
  try clear hcz17_2
  try clear hcz19_0
  try clear hcz19_1
  try clear hcz19_2
  try clear hfz11_0
  try clear hfz11_1
  try clear hfz11_2
  try clear hfz14_0
  try clear hfz14_1
  try clear hfz14_2
  try clear hfz17_0
  try clear hfz17_1
  try clear hfz17_2
  try clear hfz19_0
  try clear hfz19_1
  try clear hfz19_2
  obtain ⟨kq, x34_6, rfl, HA, HJ6, BK242, HB⟩ := hcut
  cases kq with
  | zero => exact absurd HA.out (by simp [pacelinelaw08_ConfigSpreads.j0])
  | succ kj6 =>
   have H := HA.out
   clear HA
   simp only [pacelinelaw08_ConfigSpreads.j0] at H
   by_cases c21 : x34_6 = true
   ·subst c21
    have H1 : ((pacelinelaw08_shown.f).bind fun t244 => (some t244)) = some r := by rw [if_pos rfl] at H; exact H
    clear H
    have H := H1
    clear H1
    replace H := Option.bind_eq_some_iff.mp H
    obtain ⟨t244, A220, H⟩ := H
    replace H : (some t244) = some r := H
    have A22 := Aside0.mk A220
    clear A220
    obtain rfl := Option.some.inj H
    go_wp2_with (first | ((with_reducible refine gate_callee (f := 12) rfl ?_); refine goesL_ (some 35) rfl rfl Try.func12 (by kernel_rfl) rfl #[] rfl (by (try simp only [List.map_toArray, List.map_cons, List.map_nil]); first | done | rfl | (simp only [List.length_drop, List.length_take]; rfl)) ?_; (with_reducible refine (pacelinelaw08_shown.calls  t244 _ A22.out).mono ?_); rintro e w23 ⟨rfl, hb⟩; refine ⟨_, rfl, ?_⟩; have n0_ := Aside0.mk (blk_below (g := gb242) (o := .cells #[.slice A0_0 l0_0.length c0_0, .slice A0_1 l0_1.length c0_1, .int .i64 a0_2] 25 (0, 0)) (by (with_reducible repeat (first | refine blk_drewN ?_ _ | refine blk_drew ?_ | refine blk_alloc ?_ _)); exact BK242.out) hb); have n1_ := Aside0.mk (below_step (by repeat (first | (with_reducible first | exact HB.out | apply below_alloc | apply pw_below_drewN | apply below_drew1 | refine below_set ?_ GE242.out) | exact HB.out)) hb); clear BK242; clear HB; have BK242 := n0_; have HB := n1_; clear n0_ n1_; (try clear hb); (try clear hb2); (try clear hk); (try clear hi)))
    go_ret
    exact ⟨by first | rfl | (simp [errW_none, errW_some] <;> rfl) | (simp [*, errW_none, errW_some] <;> rfl), by repeat (first | (with_reducible first | exact HB.out | apply below_alloc | apply pw_below_drewN | apply below_drew1 | refine below_set ?_ GE242.out) | exact HB.out)⟩
   ·replace c21 := Bool.eq_false_iff.mpr c21
    subst c21
    have H1 : ((pacelineref08_Check.f kj6 l0_0 l0_1 a0_2).bind fun bt245 => (if bt245.2 = 0 then (if (l0_1.length : Int) = 0 then (none) else (pacelinelaw08_ConfigSpreads.l0 kj6 a2 a3 a4 l5 (Int.tmod (wrap64 (a1)) (l0_1.length : Int)) 0 l0_0 l0_1 a0_2)) else ((pacelinelaw08_shown.f).bind fun t247 => (some t247)))) = some r := by rw [if_neg (show ¬ (false = true) by decide)] at H; exact H
    clear H
    have H := H1
    clear H1
    replace H := Option.bind_eq_some_iff.mp H
    obtain ⟨⟨t245, t246⟩, A240, H⟩ := H
    replace H : (if t246 = 0 then (if (l0_1.length : Int) = 0 then (none) else (pacelinelaw08_ConfigSpreads.l0 kj6 a2 a3 a4 l5 (Int.tmod (wrap64 (a1)) (l0_1.length : Int)) 0 l0_0 l0_1 a0_2)) else ((pacelinelaw08_shown.f).bind fun t247 => (some t247))) = some r := H
    have A24 := Aside0.mk A240
    clear A240
    by_cases c25 : t246 = 0
    ·rw [if_pos c25] at H
     have c25b0 : (t246 == 0) = true := beq_iff_eq.mpr c25
     have c25b1 : (t246 != 0) = false := bne_eq_false_iff_eq.mpr c25
     clear c25
     by_cases c26 : (l0_1.length : Int) = 0
     ·rw [if_pos c26] at H
      exact absurd H (by simp)
     ·rw [if_neg c26] at H
      have c26b0 : ((l0_1.length : Int) == 0) = false := beq_eq_false_iff_ne.mpr c26
      have c26b1 : ((l0_1.length : Int) != 0) = true := bne_iff_ne.mpr c26
      have c26b2 : ¬ (l0_1 = []) := fun h_ => c26 (by rw [h_]; rfl)
      have H' := Aside0.mk H
      clear H
      have hcz27_0 : wc.cell? ⟨gb242, 0, none⟩ = some (.slice A0_0 l0_0.length c0_0) := (blk_cell BK242.out 0).trans rfl
      have hcz27_1 : wc.cell? ⟨gb242, 1, none⟩ = some (.slice A0_1 l0_1.length c0_1) := (blk_cell BK242.out 1).trans rfl
      have hcz27_2 : wc.cell? ⟨gb242, 2, none⟩ = some (.int .i64 a0_2) := (blk_cell BK242.out 2).trans rfl
      have hfz27_0 := blk_frozen BK242.out 0
      have hfz27_1 := blk_frozen BK242.out 1
      have hfz27_2 := blk_frozen BK242.out 2
      go_wp2_with (first | ((with_reducible refine gate_callee (f := 11) rfl ?_); refine goesL_ (some 38) rfl rfl Try.func11 (by kernel_rfl) rfl #[.agg #[.slice A0_0 l0_0.length c0_0, .slice A0_1 l0_1.length c0_1, .int .i64 a0_2]] rfl (by (try simp only [List.map_toArray, List.map_cons, List.map_nil]); first | done | rfl | (simp only [List.length_drop, List.length_take]; rfl)) ?_; (with_reducible refine (pacelineref08_Check.calls kj6 _ _ l0_0 _ _ l0_1 a0_2 t245 t246 _ ?side1 ?side2 ?side3 ?side4 A24.out).mono ?_); (case side1 => repeat (first | exact (Kd.C_below HR0_0.out HB.out) | (with_reducible refine Kd.C_alloc ?_ _) | (with_reducible refine Kd.C_drewN ?_ _) | (with_reducible refine Kd.C_drew ?_))); (case side2 => exact HC0_0.out); (case side3 => repeat (first | exact (Kd.C_below HR0_1.out HB.out) | (with_reducible refine Kd.C_alloc ?_ _) | (with_reducible refine Kd.C_drewN ?_ _) | (with_reducible refine Kd.C_drew ?_))); (case side4 => exact HC0_1.out); rintro e w28 ⟨rfl, hb⟩; refine ⟨_, rfl, ?_⟩; have n0_ := Aside0.mk (blk_below (g := gb242) (o := .cells #[.slice A0_0 l0_0.length c0_0, .slice A0_1 l0_1.length c0_1, .int .i64 a0_2] 25 (0, 0)) (by (with_reducible repeat (first | refine blk_drewN ?_ _ | refine blk_drew ?_ | refine blk_alloc ?_ _)); exact BK242.out) hb); have n1_ := Aside0.mk (below_step (by repeat (first | (with_reducible first | exact HB.out | apply below_alloc | apply pw_below_drewN | apply below_drew1 | refine below_set ?_ GE242.out) | exact HB.out)) hb); clear BK242; clear HB; have BK242 := n0_; have HB := n1_; clear n0_ n1_; (try clear hb); (try clear hb2); (try clear hk); (try clear hi); have hcz29_0 : w28.cell? ⟨gb242, 0, none⟩ = some (.slice A0_0 l0_0.length c0_0) := (blk_cell BK242.out 0).trans rfl; have hcz29_1 : w28.cell? ⟨gb242, 1, none⟩ = some (.slice A0_1 l0_1.length c0_1) := (blk_cell BK242.out 1).trans rfl; have hcz29_2 : w28.cell? ⟨gb242, 2, none⟩ = some (.int .i64 a0_2) := (blk_cell BK242.out 2).trans rfl; have hfz29_0 := blk_frozen BK242.out 0; have hfz29_1 := blk_frozen BK242.out 1; have hfz29_2 := blk_frozen BK242.out 2))
      go_loopg [16] kj6 (fun kq v16 w' => ∃ (x16_2 : Int), v16 = .int .i64 x16_2 ∧ Aside0 (pacelinelaw08_ConfigSpreads.l0 kq a2 a3 a4 l5 (Int.tmod (wrap64 (a1)) (l0_1.length : Int)) x16_2 l0_0 l0_1 a0_2 = some r) ∧ Aside0 (kq ≤ kj6) ∧ Aside0 (w'.heap[gb242]? = some (.cells #[(.slice A0_0 l0_0.length c0_0), (.slice A0_1 l0_1.length c0_1), .int .i64 a0_2] 25 (0, 0))) ∧ Aside0 (Below w.heap.size w w'))
      case atStart => exact ⟨(0), (by first | rfl | (simp; done) | (simp [*]; done)), H', ⟨Nat.le_refl _⟩, ⟨by (with_reducible repeat (first | refine blk_drewN ?_ _ | refine blk_drew ?_ | refine blk_alloc ?_ _)); exact BK242.out⟩, ⟨by repeat (first | (with_reducible first | exact HB.out | apply below_alloc | apply pw_below_drewN | apply below_drew1 | refine below_set ?_ GE242.out) | exact HB.out)⟩⟩
      case round =>
       clear H'
       try clear c1
       try clear c2
       try clear p2
       try clear c4
       try clear c5
       try clear p6
       try clear c9
       try clear c10
       try clear c11
       try clear c12
       try clear c13
       try clear c13b0
       try clear c13b1
       try clear c16
       try clear c16b0
       try clear c21
       try clear c25
       try clear c25b0
       try clear c25b1
       try clear c26
       try clear c26b0
       try clear c26b1
       try clear c26b2
       try clear hcz11_0
       try clear hcz11_1
       try clear hcz11_2
       try clear hcz14_0
       try clear hcz14_1
       try clear hcz14_2
       try clear hcz17_0
       try clear hcz17_1
       try clear hcz17_2
       try clear hcz19_0
       try clear hcz19_1
       try clear hcz19_2
       try clear hcz27_0
       try clear hcz27_1
       try clear hcz27_2
       try clear hcz29_0
       try clear hcz29_1
       try clear hcz29_2
       try clear hfz11_0
       try clear hfz11_1
       try clear hfz11_2
       try clear hfz14_0
       try clear hfz14_1
       try clear hfz14_2
       try clear hfz17_0
       try clear hfz17_1
       try clear hfz17_2
       try clear hfz19_0
       try clear hfz19_1
       try clear hfz19_2
       try clear hfz27_0
       try clear hfz27_1
       try clear hfz27_2
       try clear hfz29_0
       try clear hfz29_1
       try clear hfz29_2
       try clear p2
       obtain ⟨x16_2, rfl, HA, HK2, BK242, HB⟩ := hrel
       cases gk with
       | zero => exact absurd HA.out (by simp [pacelinelaw08_ConfigSpreads.l0])
       | succ k2 =>
        have H := HA.out
        clear HA
        simp only [pacelinelaw08_ConfigSpreads.l0] at H
        by_cases c30 : x16_2 < (l0_0.length : Int)
        ·rw [if_pos c30] at H
         have c30b0 : decide (x16_2 < (l0_0.length : Int)) = true := decide_eq_true c30
         clear c30
         replace H := Option.bind_eq_some_iff.mp H
         obtain ⟨t248, A310, H⟩ := H
         replace H : ((pacelineref08_Routes.f k2 l0_0 l0_1 a0_2 (Int.tmod (wrap64 (a1)) (l0_1.length : Int)) x16_2).bind fun t251 => (if (t248.length : Int) = (t251.length : Int) then (pacelinelaw08_ConfigSpreads.l1 k2 a2 a3 a4 l5 (Int.tmod (wrap64 (a1)) (l0_1.length : Int)) x16_2 t248 t251 0 l0_0 l0_1 a0_2) else (some false))) = some r := H
         have A31 := Aside0.mk A310
         clear A310
         replace H := Option.bind_eq_some_iff.mp H
         obtain ⟨t251, A320, H⟩ := H
         replace H : (if (t248.length : Int) = (t251.length : Int) then (pacelinelaw08_ConfigSpreads.l1 k2 a2 a3 a4 l5 (Int.tmod (wrap64 (a1)) (l0_1.length : Int)) x16_2 t248 t251 0 l0_0 l0_1 a0_2) else (some false)) = some r := H
         have A32 := Aside0.mk A320
         clear A320
         by_cases c33 : (t248.length : Int) = (t251.length : Int)
         ·rw [if_pos c33] at H
          have c33b0 : ((t248.length : Int) == (t251.length : Int)) = true := beq_iff_eq.mpr c33
          have c33b1 : ((t248.length : Int) != (t251.length : Int)) = false := bne_eq_false_iff_eq.mpr c33
          have c33b2 : (t248.length == t251.length) = true := by first | simpa using c33 | (simp at c33 ⊢; omega)
          clear c33
          have H' := Aside0.mk H
          clear H
          have hcz34_0 : wr.cell? ⟨gb242, 0, none⟩ = some (.slice A0_0 l0_0.length c0_0) := (blk_cell BK242.out 0).trans rfl
          have hcz34_1 : wr.cell? ⟨gb242, 1, none⟩ = some (.slice A0_1 l0_1.length c0_1) := (blk_cell BK242.out 1).trans rfl
          have hcz34_2 : wr.cell? ⟨gb242, 2, none⟩ = some (.int .i64 a0_2) := (blk_cell BK242.out 2).trans rfl
          have hfz34_0 := blk_frozen BK242.out 0
          have hfz34_1 := blk_frozen BK242.out 1
          have hfz34_2 := blk_frozen BK242.out 2
          go_wp2_with (first | ((with_reducible refine gate_callee (f := 13) rfl ?_); refine goesL_ (some 60) rfl rfl Try.func13 (by kernel_rfl) rfl #[.agg #[.slice A0_0 l0_0.length c0_0, .slice A0_1 l0_1.length c0_1, .int .i64 a0_2], .int .i64 (Int.tmod (wrap64 (a1)) (l0_1.length : Int)), .int .i64 x16_2] rfl (by (try simp only [List.map_toArray, List.map_cons, List.map_nil]); first | done | rfl | (simp only [List.length_drop, List.length_take]; rfl)) ?_; (with_reducible refine (config_Routes.calls _ _ l0_0 _ _ l0_1 a0_2 (Int.tmod (wrap64 (a1)) (l0_1.length : Int)) x16_2 t248 _ ?side1 ?side2 ?side3 ?side4 A31.out).mono ?_); (case side1 => repeat (first | exact (Kd.C_below HR0_0.out HB.out) | (with_reducible refine Kd.C_alloc ?_ _) | (with_reducible refine Kd.C_drewN ?_ _) | (with_reducible refine Kd.C_drew ?_))); (case side2 => exact HC0_0.out); (case side3 => repeat (first | exact (Kd.C_below HR0_1.out HB.out) | (with_reducible refine Kd.C_alloc ?_ _) | (with_reducible refine Kd.C_drewN ?_ _) | (with_reducible refine Kd.C_drew ?_))); (case side4 => exact HC0_1.out); rintro e w35 ⟨v249, rfl, ho0, hb⟩; refine ⟨_, rfl, ?_⟩; have n0_ := Aside0.mk (Kd.R_lower ho0 (below_size (by repeat (first | (with_reducible first | exact HB.out | apply below_alloc | apply pw_below_drewN | apply below_drew1 | refine below_set ?_ GE242.out) | exact HB.out)))); have n1_ := Aside0.mk (blk_below (g := gb242) (o := .cells #[.slice A0_0 l0_0.length c0_0, .slice A0_1 l0_1.length c0_1, .int .i64 a0_2] 25 (0, 0)) (by (with_reducible repeat (first | refine blk_drewN ?_ _ | refine blk_drew ?_ | refine blk_alloc ?_ _)); exact BK242.out) hb); have n2_ := Aside0.mk (below_step (by repeat (first | (with_reducible first | exact HB.out | apply below_alloc | apply pw_below_drewN | apply below_drew1 | refine below_set ?_ GE242.out) | exact HB.out)) hb); clear BK242; clear HB; have HO250 := n0_; have BK242 := n1_; have HB := n2_; clear n0_ n1_ n2_; (try clear hb); (try clear hb2); (try clear hk); (try clear hi); (try clear ho0); have hcz36_0 : w35.cell? ⟨gb242, 0, none⟩ = some (.slice A0_0 l0_0.length c0_0) := (blk_cell BK242.out 0).trans rfl; have hcz36_1 : w35.cell? ⟨gb242, 1, none⟩ = some (.slice A0_1 l0_1.length c0_1) := (blk_cell BK242.out 1).trans rfl; have hcz36_2 : w35.cell? ⟨gb242, 2, none⟩ = some (.int .i64 a0_2) := (blk_cell BK242.out 2).trans rfl; have hfz36_0 := blk_frozen BK242.out 0; have hfz36_1 := blk_frozen BK242.out 1; have hfz36_2 := blk_frozen BK242.out 2) | ((with_reducible refine gate_callee (f := 14) rfl ?_); refine goesL_ (some 64) rfl rfl Try.func14 (by kernel_rfl) rfl #[.agg #[.slice A0_0 l0_0.length c0_0, .slice A0_1 l0_1.length c0_1, .int .i64 a0_2], .int .i64 (Int.tmod (wrap64 (a1)) (l0_1.length : Int)), .int .i64 x16_2] rfl (by (try simp only [List.map_toArray, List.map_cons, List.map_nil]); first | done | rfl | (simp only [List.length_drop, List.length_take]; rfl)) ?_; (with_reducible refine (pacelineref08_Routes.calls k2 _ _ l0_0 _ _ l0_1 a0_2 (Int.tmod (wrap64 (a1)) (l0_1.length : Int)) x16_2 t251 _ ?side1 ?side2 ?side3 ?side4 A32.out).mono ?_); (case side1 => repeat (first | exact (Kd.C_below HR0_0.out HB.out) | (with_reducible refine Kd.C_alloc ?_ _) | (with_reducible refine Kd.C_drewN ?_ _) | (with_reducible refine Kd.C_drew ?_))); (case side2 => exact HC0_0.out); (case side3 => repeat (first | exact (Kd.C_below HR0_1.out HB.out) | (with_reducible refine Kd.C_alloc ?_ _) | (with_reducible refine Kd.C_drewN ?_ _) | (with_reducible refine Kd.C_drew ?_))); (case side4 => exact HC0_1.out); rintro e w37 ⟨v252, rfl, ho0, hb⟩; refine ⟨_, rfl, ?_⟩; have n0_ := Aside0.mk (Kd.R_elder' (by (with_reducible repeat (first | apply Kd.R_alloc | apply Kd.R_drewN | apply Kd.R_drew)); exact HO250.out) (Kd.R_base ho0) hb); have n1_ := Aside0.mk (Kd.R_lower (Kd.R_new' ho0 (Kd.R_lt (by (with_reducible repeat (first | apply Kd.R_alloc | apply Kd.R_drewN | apply Kd.R_drew)); exact HO250.out))) (below_size (by repeat (first | (with_reducible first | exact HB.out | apply below_alloc | apply pw_below_drewN | apply below_drew1 | refine below_set ?_ GE242.out) | exact HB.out)))); have n2_ := Aside0.mk (blk_below (g := gb242) (o := .cells #[.slice A0_0 l0_0.length c0_0, .slice A0_1 l0_1.length c0_1, .int .i64 a0_2] 25 (0, 0)) (by (with_reducible repeat (first | refine blk_drewN ?_ _ | refine blk_drew ?_ | refine blk_alloc ?_ _)); exact BK242.out) hb); have n3_ := Aside0.mk (below_step (by repeat (first | (with_reducible first | exact HB.out | apply below_alloc | apply pw_below_drewN | apply below_drew1 | refine below_set ?_ GE242.out) | exact HB.out)) hb); clear HO250; clear BK242; clear HB; have HO250 := n0_; have HO253 := n1_; have BK242 := n2_; have HB := n3_; clear n0_ n1_ n2_ n3_; (try clear hb); (try clear hb2); (try clear hk); (try clear hi); (try clear ho0); obtain ⟨Ao38, co38, eo38⟩ := Kd.R_slice HO250.out; subst eo38; obtain ⟨Ao39, co39, eo39⟩ := Kd.R_slice HO253.out; subst eo39))
          go_loopg [19] k2 (fun kq v19 w' => ∃ (x19_3 : Int), v19 = .int .i64 x19_3 ∧ Aside0 (pacelinelaw08_ConfigSpreads.l1 kq a2 a3 a4 l5 (Int.tmod (wrap64 (a1)) (l0_1.length : Int)) x16_2 t248 t251 x19_3 l0_0 l0_1 a0_2 = some r) ∧ Aside0 (kq ≤ k2) ∧ Aside0 (Kd.R (Kd.int .i64) 3 w' w.heap.size (fun k_ => some k_ ≠ ((.slice Ao39 t251.length co39) : Value).ownBlock) (.slice Ao38 t248.length co38) t248) ∧ Aside0 (Kd.R (Kd.int .i64) 3 w' w.heap.size (fun k_ => some k_ ≠ ((.slice Ao38 t248.length co38) : Value).ownBlock) (.slice Ao39 t251.length co39) t251) ∧ Aside0 (w'.heap[gb242]? = some (.cells #[(.slice A0_0 l0_0.length c0_0), (.slice A0_1 l0_1.length c0_1), .int .i64 a0_2] 25 (0, 0))) ∧ Aside0 (Below w.heap.size w w'))
          case atStart => exact ⟨(0), (by first | rfl | (simp; done) | (simp [*]; done)), H', ⟨Nat.le_refl _⟩, ⟨by (with_reducible repeat (first | apply Kd.R_alloc | apply Kd.R_drewN | apply Kd.R_drew)); exact Kd.R_mono HO250.out (fun _ hk => hk.2)⟩, ⟨by (with_reducible repeat (first | apply Kd.R_alloc | apply Kd.R_drewN | apply Kd.R_drew)); exact Kd.R_mono HO253.out (fun _ hk => hk.2)⟩, ⟨by (with_reducible repeat (first | refine blk_drewN ?_ _ | refine blk_drew ?_ | refine blk_alloc ?_ _)); exact BK242.out⟩, ⟨by repeat (first | (with_reducible first | exact HB.out | apply below_alloc | apply pw_below_drewN | apply below_drew1 | refine below_set ?_ GE242.out) | exact HB.out)⟩⟩
          case round =>
           clear H'
           try clear c1
           try clear c2
           try clear p2
           try clear c3
           try clear c4
           try clear c5
           try clear p6
           try clear c9
           try clear c10
           try clear c11
           try clear c12
           try clear c13
           try clear c13b0
           try clear c13b1
           try clear c14
           try clear c16
           try clear c16b0
           try clear c21
           try clear c25
           try clear c25b0
           try clear c25b1
           try clear c26
           try clear c26b0
           try clear c26b1
           try clear c26b2
           try clear c30
           try clear c30b0
           try clear c33
           try clear c33b0
           try clear c33b1
           try clear c33b2
           try clear hcz11_0
           try clear hcz11_1
           try clear hcz11_2
           try clear hcz14_0
           try clear hcz14_1
           try clear hcz14_2
           try clear hcz17_0
           try clear hcz17_1
           try clear hcz17_2
           try clear hcz19_0
           try clear hcz19_1
           try clear hcz19_2
           try clear hcz27_0
           try clear hcz27_1
           try clear hcz27_2
           try clear hcz29_0
           try clear hcz29_1
           try clear hcz29_2
           try clear hcz34_0
           try clear hcz34_1
           try clear hcz34_2
           try clear hcz36_0
           try clear hcz36_1
           try clear hcz36_2
           try clear hfz11_0
           try clear hfz11_1
           try clear hfz11_2
           try clear hfz14_0
           try clear hfz14_1
           try clear hfz14_2
           try clear hfz17_0
           try clear hfz17_1
           try clear hfz17_2
           try clear hfz19_0
           try clear hfz19_1
           try clear hfz19_2
           try clear hfz27_0
           try clear hfz27_1
           try clear hfz27_2
           try clear hfz29_0
           try clear hfz29_1
           try clear hfz29_2
           try clear hfz34_0
           try clear hfz34_1
           try clear hfz34_2
           try clear hfz36_0
           try clear hfz36_1
           try clear hfz36_2
           try clear p2
           try clear p6
           obtain ⟨x19_3, rfl, HA, HK3, HO_17, HO_18, BK242, HB⟩ := hrel
           cases gk with
           | zero => exact absurd HA.out (by simp [pacelinelaw08_ConfigSpreads.l1])
           | succ k3 =>
            have H := HA.out
            clear HA
            simp only [pacelinelaw08_ConfigSpreads.l1] at H
            by_cases c40 : x19_3 < (t248.length : Int)
            ·rw [if_pos c40] at H
             have c40b0 : decide (x19_3 < (t248.length : Int)) = true := decide_eq_true c40
             clear c40
             by_cases c41 : 0 ≤ x19_3
             ·rw [if_pos c41] at H
              have c41b0 : decide (0 ≤ x19_3) = true := decide_eq_true c41
              clear c41
              by_cases c42 : x19_3 < (t251.length : Int)
              ·rw [if_pos c42] at H
               have c42b0 : decide (x19_3 < (t251.length : Int)) = true := decide_eq_true c42
               clear c42
               by_cases c43 : (rd t248 x19_3) = (rd t251 x19_3)
               ·rw [if_pos c43] at H
                have c43b0 : ((rd t248 x19_3) == (rd t251 x19_3)) = true := beq_iff_eq.mpr c43
                have c43b1 : ((rd t248 x19_3) != (rd t251 x19_3)) = false := bne_eq_false_iff_eq.mpr c43
                clear c43
                have H' := Aside0.mk H
                clear H
                try go_wp2
                have n0_ := Aside0.mk (Kd.R_drew HO_17.out)
                have n1_ := Aside0.mk (Kd.R_drew HO_18.out)
                have n2_ := Aside0.mk (blk_drew BK242.out)
                have n3_ := Aside0.mk (below_drew1 HB.out)
                clear HO_17
                clear HO_18
                clear BK242
                clear HB
                have HO_17 := n0_
                have HO_18 := n1_
                have BK242 := n2_
                have HB := n3_
                clear n0_ n1_ n2_ n3_
                have p254 : 0 ≤ (x19_3 : Int) := of_decide_eq_true (by first | (with_reducible assumption) | assumption)
                have q254 : x19_3 < (t248.length : Int) := of_decide_eq_true (by first | (with_reducible assumption) | assumption)
                obtain ⟨ad254, e254, hx254_0⟩ := Kd.at_int (Kd.R_reads' HO_17.out).2.2 x19_3 p254 q254
                cases e254
                replace p254 := eq_true p254
                replace q254 := eq_true q254
                have p255 : 0 ≤ (x19_3 : Int) := of_decide_eq_true (by first | (with_reducible assumption) | assumption)
                have q255 : x19_3 < (t251.length : Int) := of_decide_eq_true (by first | (with_reducible assumption) | assumption)
                obtain ⟨ad255, e255, hx255_0⟩ := Kd.at_int (Kd.R_reads' HO_18.out).2.2 x19_3 p255 q255
                cases e255
                replace p255 := eq_true p255
                replace q255 := eq_true q255
                refine start_ (n := 9) (S := fun w' => w'.cell? (ad254.add (x19_3).toNat) = some (.int .i64 (rd t248 x19_3)) ∧ w'.cell? (ad255.add (x19_3).toNat) = some (.int .i64 (rd t251 x19_3))) (ds := []) #[false, false, false, false, false, false, false, false, false] (by kernel_rfl) rfl rfl ⟨hx254_0, hx255_0⟩ (fun hHeld => ?_); refine with_tabW pacelinelaw08_ConfigSpreads.tab17 pacelinelaw08_ConfigSpreads.bits17 (fun HT_ HW_ => ?_)
                generalize wr.drew = w44 at HO_17 HO_18 BK242 HB hx254_0 hx255_0 hHeld ⊢
                refine pure_ (i := 0) (N := some 76) (v := ?_) (a' := ?_) #[true, false, false, false, false, false, false, false, false] rfl rfl (any_of HT_.out (by kernel_rfl)) (fun _ _ _ h => h) (Or.inl ⟨by rfl, ?_⟩) ?_ ?_
                rotate_left
                ·intro w'
                 go_simp
                 with_reducible rfl
                rotate_left
                ·simp only [Act.put, List.setIfInBounds_toArray, List.set_cons_zero, List.set_cons_succ, i64_w, i32_w]
                 rfl
                refine pure_ (i := 1) (N := some 77) (v := ?_) (a' := ?_) #[true, true, false, false, false, false, false, false, false] rfl rfl (any_of HT_.out (by kernel_rfl)) (fun _ _ _ h => h) (Or.inl ⟨by rfl, ?_⟩) ?_ ?_
                rotate_left
                ·intro w'
                 go_simp
                 with_reducible rfl
                rotate_left
                ·simp only [Act.put, List.setIfInBounds_toArray, List.set_cons_zero, List.set_cons_succ, i64_w, i32_w]
                 rfl
                refine pure_ (i := 2) (N := some 78) (v := ?_) (a' := ?_) #[true, true, true, false, false, false, false, false, false] rfl rfl (any_of HT_.out (by kernel_rfl)) (fun _ _ _ h => h) (Or.inl ⟨by rfl, ?_⟩) ?_ ?_
                rotate_left
                ·intro w'
                 go_simp
                 with_reducible rfl
                rotate_left
                ·simp only [Act.put, List.setIfInBounds_toArray, List.set_cons_zero, List.set_cons_succ, i64_w, i32_w]
                 rfl
                refine pure_ (i := 4) (N := some 80) (v := ?_) (a' := ?_) #[true, true, true, false, true, false, false, false, false] rfl rfl (any_of HT_.out (by kernel_rfl)) (fun _ _ _ h => h) (Or.inl ⟨by rfl, ?_⟩) ?_ ?_
                rotate_left
                ·intro w'
                 go_simp
                 with_reducible rfl
                rotate_left
                ·simp only [Act.put, List.setIfInBounds_toArray, List.set_cons_zero, List.set_cons_succ, i64_w, i32_w]
                 rfl
                refine pure_ (i := 5) (N := some 81) (v := ?_) (a' := ?_) #[true, true, true, false, true, true, false, false, false] rfl rfl (any_of HT_.out (by kernel_rfl)) (fun _ _ _ h => h) (Or.inl ⟨by rfl, ?_⟩) ?_ ?_
                rotate_left
                ·intro w'
                 go_simp
                 with_reducible rfl
                rotate_left
                ·simp only [Act.put, List.setIfInBounds_toArray, List.set_cons_zero, List.set_cons_succ, i64_w, i32_w]
                 rfl
                refine pure_ (i := 6) (N := some 82) (v := ?_) (a' := ?_) #[true, true, true, false, true, true, true, false, false] rfl rfl (any_of HT_.out (by kernel_rfl)) (fun _ _ _ h => h) (Or.inl ⟨by rfl, ?_⟩) ?_ ?_
                rotate_left
                ·intro w'
                 go_simp
                 with_reducible rfl
                rotate_left
                ·simp only [Act.put, List.setIfInBounds_toArray, List.set_cons_zero, List.set_cons_succ, i64_w, i32_w]
                 rfl
                refine take_ (i := 3) (N := some 79) (v := ?_) (a' := ?_) #[true, true, true, true, true, true, true, false, false] rfl rfl (take_ofW HT_.out HW_.out (by kernel_rfl)) (fun _ _ _ h => h) (Or.inl ⟨by rfl, ?_⟩) hHeld ?_ ?_
                rotate_left
                ·rintro w' ⟨s0, s1⟩
                 go_simp
                 with_reducible rfl
                rotate_left
                ·simp only [Act.put, List.setIfInBounds_toArray, List.set_cons_zero, List.set_cons_succ, i64_w, i32_w]
                 rfl
                refine take_ (i := 7) (N := some 83) (v := ?_) (a' := ?_) #[true, true, true, true, true, true, true, true, false] rfl rfl (take_ofW HT_.out HW_.out (by kernel_rfl)) (fun _ _ _ h => h) (Or.inl ⟨by rfl, ?_⟩) hHeld ?_ ?_
                rotate_left
                ·rintro w' ⟨s0, s1⟩
                 go_simp
                 with_reducible rfl
                rotate_left
                ·simp only [Act.put, List.setIfInBounds_toArray, List.set_cons_zero, List.set_cons_succ, i64_w, i32_w]
                 rfl
                refine pure_ (i := 8) (N := some 84) (v := ?_) (a' := ?_) #[true, true, true, true, true, true, true, true, true] rfl rfl (any_of HT_.out (by kernel_rfl)) (fun _ _ _ h => h) (Or.inl ⟨by rfl, ?_⟩) ?_ ?_
                rotate_left
                ·intro w'
                 go_simp
                 with_reducible rfl
                rotate_left
                ·simp only [Act.put, List.setIfInBounds_toArray, List.set_cons_zero, List.set_cons_succ, i64_w, i32_w]
                 rfl
                refine done_ (done_of HT_.out (by kernel_rfl)) ?_
                try go_wp2
                go_roundg k3
                case measure => have := HJ6.out; have := HK2.out; have := HK3.out; omega
                case rel => exact ⟨(wrap64 (x19_3 + 1)), (by first | rfl | (simp; done) | (simp [*]; done)), H', ⟨by have := HJ6.out; have := HK2.out; have := HK3.out; omega⟩, ⟨by (with_reducible repeat (first | apply Kd.R_alloc | apply Kd.R_drewN | apply Kd.R_drew)); exact HO_17.out⟩, ⟨by (with_reducible repeat (first | apply Kd.R_alloc | apply Kd.R_drewN | apply Kd.R_drew)); exact HO_18.out⟩, ⟨by (with_reducible repeat (first | refine blk_drewN ?_ _ | refine blk_drew ?_ | refine blk_alloc ?_ _)); exact BK242.out⟩, ⟨by repeat (first | (with_reducible first | exact HB.out | apply below_alloc | apply pw_below_drewN | apply below_drew1 | refine below_set ?_ GE242.out) | exact HB.out)⟩⟩
               ·rw [if_neg c43] at H
                have c43b0 : ((rd t248 x19_3) == (rd t251 x19_3)) = false := beq_eq_false_iff_ne.mpr c43
                have c43b1 : ((rd t248 x19_3) != (rd t251 x19_3)) = true := bne_iff_ne.mpr c43
                obtain rfl := Option.some.inj H
                try go_wp2
                have n0_ := Aside0.mk (Kd.R_drew HO_17.out)
                have n1_ := Aside0.mk (Kd.R_drew HO_18.out)
                have n2_ := Aside0.mk (blk_drew BK242.out)
                have n3_ := Aside0.mk (below_drew1 HB.out)
                clear HO_17
                clear HO_18
                clear BK242
                clear HB
                have HO_17 := n0_
                have HO_18 := n1_
                have BK242 := n2_
                have HB := n3_
                clear n0_ n1_ n2_ n3_
                have p254 : 0 ≤ (x19_3 : Int) := of_decide_eq_true (by first | (with_reducible assumption) | assumption)
                have q254 : x19_3 < (t248.length : Int) := of_decide_eq_true (by first | (with_reducible assumption) | assumption)
                obtain ⟨ad254, e254, hx254_0⟩ := Kd.at_int (Kd.R_reads' HO_17.out).2.2 x19_3 p254 q254
                cases e254
                replace p254 := eq_true p254
                replace q254 := eq_true q254
                have p255 : 0 ≤ (x19_3 : Int) := of_decide_eq_true (by first | (with_reducible assumption) | assumption)
                have q255 : x19_3 < (t251.length : Int) := of_decide_eq_true (by first | (with_reducible assumption) | assumption)
                obtain ⟨ad255, e255, hx255_0⟩ := Kd.at_int (Kd.R_reads' HO_18.out).2.2 x19_3 p255 q255
                cases e255
                replace p255 := eq_true p255
                replace q255 := eq_true q255
                refine start_ (n := 9) (S := fun w' => w'.cell? (ad254.add (x19_3).toNat) = some (.int .i64 (rd t248 x19_3)) ∧ w'.cell? (ad255.add (x19_3).toNat) = some (.int .i64 (rd t251 x19_3))) (ds := []) #[false, false, false, false, false, false, false, false, false] (by kernel_rfl) rfl rfl ⟨hx254_0, hx255_0⟩ (fun hHeld => ?_); refine with_tabW pacelinelaw08_ConfigSpreads.tab17 pacelinelaw08_ConfigSpreads.bits17 (fun HT_ HW_ => ?_)
                generalize wr.drew = w45 at HO_17 HO_18 BK242 HB hx254_0 hx255_0 hHeld ⊢
                refine pure_ (i := 0) (N := some 76) (v := ?_) (a' := ?_) #[true, false, false, false, false, false, false, false, false] rfl rfl (any_of HT_.out (by kernel_rfl)) (fun _ _ _ h => h) (Or.inl ⟨by rfl, ?_⟩) ?_ ?_
                rotate_left
                ·intro w'
                 go_simp
                 with_reducible rfl
                rotate_left
                ·simp only [Act.put, List.setIfInBounds_toArray, List.set_cons_zero, List.set_cons_succ, i64_w, i32_w]
                 rfl
                refine pure_ (i := 1) (N := some 77) (v := ?_) (a' := ?_) #[true, true, false, false, false, false, false, false, false] rfl rfl (any_of HT_.out (by kernel_rfl)) (fun _ _ _ h => h) (Or.inl ⟨by rfl, ?_⟩) ?_ ?_
                rotate_left
                ·intro w'
                 go_simp
                 with_reducible rfl
                rotate_left
                ·simp only [Act.put, List.setIfInBounds_toArray, List.set_cons_zero, List.set_cons_succ, i64_w, i32_w]
                 rfl
                refine pure_ (i := 2) (N := some 78) (v := ?_) (a' := ?_) #[true, true, true, false, false, false, false, false, false] rfl rfl (any_of HT_.out (by kernel_rfl)) (fun _ _ _ h => h) (Or.inl ⟨by rfl, ?_⟩) ?_ ?_
                rotate_left
                ·intro w'
                 go_simp
                 with_reducible rfl
                rotate_left
                ·simp only [Act.put, List.setIfInBounds_toArray, List.set_cons_zero, List.set_cons_succ, i64_w, i32_w]
                 rfl
                refine pure_ (i := 4) (N := some 80) (v := ?_) (a' := ?_) #[true, true, true, false, true, false, false, false, false] rfl rfl (any_of HT_.out (by kernel_rfl)) (fun _ _ _ h => h) (Or.inl ⟨by rfl, ?_⟩) ?_ ?_
                rotate_left
                ·intro w'
                 go_simp
                 with_reducible rfl
                rotate_left
                ·simp only [Act.put, List.setIfInBounds_toArray, List.set_cons_zero, List.set_cons_succ, i64_w, i32_w]
                 rfl
                refine pure_ (i := 5) (N := some 81) (v := ?_) (a' := ?_) #[true, true, true, false, true, true, false, false, false] rfl rfl (any_of HT_.out (by kernel_rfl)) (fun _ _ _ h => h) (Or.inl ⟨by rfl, ?_⟩) ?_ ?_
                rotate_left
                ·intro w'
                 go_simp
                 with_reducible rfl
                rotate_left
                ·simp only [Act.put, List.setIfInBounds_toArray, List.set_cons_zero, List.set_cons_succ, i64_w, i32_w]
                 rfl
                refine pure_ (i := 6) (N := some 82) (v := ?_) (a' := ?_) #[true, true, true, false, true, true, true, false, false] rfl rfl (any_of HT_.out (by kernel_rfl)) (fun _ _ _ h => h) (Or.inl ⟨by rfl, ?_⟩) ?_ ?_
                rotate_left
                ·intro w'
                 go_simp
                 with_reducible rfl
                rotate_left
                ·simp only [Act.put, List.setIfInBounds_toArray, List.set_cons_zero, List.set_cons_succ, i64_w, i32_w]
                 rfl
                refine take_ (i := 3) (N := some 79) (v := ?_) (a' := ?_) #[true, true, true, true, true, true, true, false, false] rfl rfl (take_ofW HT_.out HW_.out (by kernel_rfl)) (fun _ _ _ h => h) (Or.inl ⟨by rfl, ?_⟩) hHeld ?_ ?_
                rotate_left
                ·rintro w' ⟨s0, s1⟩
                 go_simp
                 with_reducible rfl
                rotate_left
                ·simp only [Act.put, List.setIfInBounds_toArray, List.set_cons_zero, List.set_cons_succ, i64_w, i32_w]
                 rfl
                refine take_ (i := 7) (N := some 83) (v := ?_) (a' := ?_) #[true, true, true, true, true, true, true, true, false] rfl rfl (take_ofW HT_.out HW_.out (by kernel_rfl)) (fun _ _ _ h => h) (Or.inl ⟨by rfl, ?_⟩) hHeld ?_ ?_
                rotate_left
                ·rintro w' ⟨s0, s1⟩
                 go_simp
                 with_reducible rfl
                rotate_left
                ·simp only [Act.put, List.setIfInBounds_toArray, List.set_cons_zero, List.set_cons_succ, i64_w, i32_w]
                 rfl
                refine pure_ (i := 8) (N := some 84) (v := ?_) (a' := ?_) #[true, true, true, true, true, true, true, true, true] rfl rfl (any_of HT_.out (by kernel_rfl)) (fun _ _ _ h => h) (Or.inl ⟨by rfl, ?_⟩) ?_ ?_
                rotate_left
                ·intro w'
                 go_simp
                 with_reducible rfl
                rotate_left
                ·simp only [Act.put, List.setIfInBounds_toArray, List.set_cons_zero, List.set_cons_succ, i64_w, i32_w]
                 rfl
                refine done_ (done_of HT_.out (by kernel_rfl)) ?_
                try go_wp2
                go_ret
                exact ⟨by first | rfl | (simp [errW_none, errW_some] <;> rfl) | (simp [*, errW_none, errW_some] <;> rfl), by repeat (first | (with_reducible first | exact HB.out | apply below_alloc | apply pw_below_drewN | apply below_drew1 | refine below_set ?_ GE242.out) | exact HB.out)⟩
              ·rw [if_neg c42] at H
               exact absurd H (by simp)
             ·rw [if_neg c41] at H
              exact absurd H (by simp)
            ·rw [if_neg c40] at H
             have c40b0 : decide (x19_3 < (t248.length : Int)) = false := decide_eq_false c40
             clear c40
             have H' := Aside0.mk H
             clear H
             go_wp2
             go_roundg k3
             case measure => have := HJ6.out; have := HK2.out; have := HK3.out; omega
             case rel => exact ⟨(wrap64 (x16_2 + 1)), (by first | rfl | (simp; done) | (simp [*]; done)), H', ⟨by have := HJ6.out; have := HK2.out; have := HK3.out; omega⟩, ⟨by (with_reducible repeat (first | refine blk_drewN ?_ _ | refine blk_drew ?_ | refine blk_alloc ?_ _)); exact BK242.out⟩, ⟨by repeat (first | (with_reducible first | exact HB.out | apply below_alloc | apply pw_below_drewN | apply below_drew1 | refine below_set ?_ GE242.out) | exact HB.out)⟩⟩
         ·rw [if_neg c33] at H
          have c33b0 : ((t248.length : Int) == (t251.length : Int)) = false := beq_eq_false_iff_ne.mpr c33
          have c33b1 : ((t248.length : Int) != (t251.length : Int)) = true := bne_iff_ne.mpr c33
          have c33b2 : (t248.length == t251.length) = false := by first | simpa using c33 | (simp at c33 ⊢; omega)
          obtain rfl := Option.some.inj H
          have hcz46_0 : wr.cell? ⟨gb242, 0, none⟩ = some (.slice A0_0 l0_0.length c0_0) := (blk_cell BK242.out 0).trans rfl
          have hcz46_1 : wr.cell? ⟨gb242, 1, none⟩ = some (.slice A0_1 l0_1.length c0_1) := (blk_cell BK242.out 1).trans rfl
          have hcz46_2 : wr.cell? ⟨gb242, 2, none⟩ = some (.int .i64 a0_2) := (blk_cell BK242.out 2).trans rfl
          have hfz46_0 := blk_frozen BK242.out 0
          have hfz46_1 := blk_frozen BK242.out 1
          have hfz46_2 := blk_frozen BK242.out 2
          go_wp2_with (first | ((with_reducible refine gate_callee (f := 13) rfl ?_); refine goesL_ (some 60) rfl rfl Try.func13 (by kernel_rfl) rfl #[.agg #[.slice A0_0 l0_0.length c0_0, .slice A0_1 l0_1.length c0_1, .int .i64 a0_2], .int .i64 (Int.tmod (wrap64 (a1)) (l0_1.length : Int)), .int .i64 x16_2] rfl (by (try simp only [List.map_toArray, List.map_cons, List.map_nil]); first | done | rfl | (simp only [List.length_drop, List.length_take]; rfl)) ?_; (with_reducible refine (config_Routes.calls _ _ l0_0 _ _ l0_1 a0_2 (Int.tmod (wrap64 (a1)) (l0_1.length : Int)) x16_2 t248 _ ?side1 ?side2 ?side3 ?side4 A31.out).mono ?_); (case side1 => repeat (first | exact (Kd.C_below HR0_0.out HB.out) | (with_reducible refine Kd.C_alloc ?_ _) | (with_reducible refine Kd.C_drewN ?_ _) | (with_reducible refine Kd.C_drew ?_))); (case side2 => exact HC0_0.out); (case side3 => repeat (first | exact (Kd.C_below HR0_1.out HB.out) | (with_reducible refine Kd.C_alloc ?_ _) | (with_reducible refine Kd.C_drewN ?_ _) | (with_reducible refine Kd.C_drew ?_))); (case side4 => exact HC0_1.out); rintro e w47 ⟨v249, rfl, ho0, hb⟩; refine ⟨_, rfl, ?_⟩; have n0_ := Aside0.mk (Kd.R_lower ho0 (below_size (by repeat (first | (with_reducible first | exact HB.out | apply below_alloc | apply pw_below_drewN | apply below_drew1 | refine below_set ?_ GE242.out) | exact HB.out)))); have n1_ := Aside0.mk (blk_below (g := gb242) (o := .cells #[.slice A0_0 l0_0.length c0_0, .slice A0_1 l0_1.length c0_1, .int .i64 a0_2] 25 (0, 0)) (by (with_reducible repeat (first | refine blk_drewN ?_ _ | refine blk_drew ?_ | refine blk_alloc ?_ _)); exact BK242.out) hb); have n2_ := Aside0.mk (below_step (by repeat (first | (with_reducible first | exact HB.out | apply below_alloc | apply pw_below_drewN | apply below_drew1 | refine below_set ?_ GE242.out) | exact HB.out)) hb); clear BK242; clear HB; have HO250 := n0_; have BK242 := n1_; have HB := n2_; clear n0_ n1_ n2_; (try clear hb); (try clear hb2); (try clear hk); (try clear hi); (try clear ho0); have hcz48_0 : w47.cell? ⟨gb242, 0, none⟩ = some (.slice A0_0 l0_0.length c0_0) := (blk_cell BK242.out 0).trans rfl; have hcz48_1 : w47.cell? ⟨gb242, 1, none⟩ = some (.slice A0_1 l0_1.length c0_1) := (blk_cell BK242.out 1).trans rfl; have hcz48_2 : w47.cell? ⟨gb242, 2, none⟩ = some (.int .i64 a0_2) := (blk_cell BK242.out 2).trans rfl; have hfz48_0 := blk_frozen BK242.out 0; have hfz48_1 := blk_frozen BK242.out 1; have hfz48_2 := blk_frozen BK242.out 2) | ((with_reducible refine gate_callee (f := 14) rfl ?_); refine goesL_ (some 64) rfl rfl Try.func14 (by kernel_rfl) rfl #[.agg #[.slice A0_0 l0_0.length c0_0, .slice A0_1 l0_1.length c0_1, .int .i64 a0_2], .int .i64 (Int.tmod (wrap64 (a1)) (l0_1.length : Int)), .int .i64 x16_2] rfl (by (try simp only [List.map_toArray, List.map_cons, List.map_nil]); first | done | rfl | (simp only [List.length_drop, List.length_take]; rfl)) ?_; (with_reducible refine (pacelineref08_Routes.calls k2 _ _ l0_0 _ _ l0_1 a0_2 (Int.tmod (wrap64 (a1)) (l0_1.length : Int)) x16_2 t251 _ ?side1 ?side2 ?side3 ?side4 A32.out).mono ?_); (case side1 => repeat (first | exact (Kd.C_below HR0_0.out HB.out) | (with_reducible refine Kd.C_alloc ?_ _) | (with_reducible refine Kd.C_drewN ?_ _) | (with_reducible refine Kd.C_drew ?_))); (case side2 => exact HC0_0.out); (case side3 => repeat (first | exact (Kd.C_below HR0_1.out HB.out) | (with_reducible refine Kd.C_alloc ?_ _) | (with_reducible refine Kd.C_drewN ?_ _) | (with_reducible refine Kd.C_drew ?_))); (case side4 => exact HC0_1.out); rintro e w49 ⟨v252, rfl, ho0, hb⟩; refine ⟨_, rfl, ?_⟩; have n0_ := Aside0.mk (Kd.R_elder' (by (with_reducible repeat (first | apply Kd.R_alloc | apply Kd.R_drewN | apply Kd.R_drew)); exact HO250.out) (Kd.R_base ho0) hb); have n1_ := Aside0.mk (Kd.R_lower (Kd.R_new' ho0 (Kd.R_lt (by (with_reducible repeat (first | apply Kd.R_alloc | apply Kd.R_drewN | apply Kd.R_drew)); exact HO250.out))) (below_size (by repeat (first | (with_reducible first | exact HB.out | apply below_alloc | apply pw_below_drewN | apply below_drew1 | refine below_set ?_ GE242.out) | exact HB.out)))); have n2_ := Aside0.mk (blk_below (g := gb242) (o := .cells #[.slice A0_0 l0_0.length c0_0, .slice A0_1 l0_1.length c0_1, .int .i64 a0_2] 25 (0, 0)) (by (with_reducible repeat (first | refine blk_drewN ?_ _ | refine blk_drew ?_ | refine blk_alloc ?_ _)); exact BK242.out) hb); have n3_ := Aside0.mk (below_step (by repeat (first | (with_reducible first | exact HB.out | apply below_alloc | apply pw_below_drewN | apply below_drew1 | refine below_set ?_ GE242.out) | exact HB.out)) hb); clear HO250; clear BK242; clear HB; have HO250 := n0_; have HO253 := n1_; have BK242 := n2_; have HB := n3_; clear n0_ n1_ n2_ n3_; (try clear hb); (try clear hb2); (try clear hk); (try clear hi); (try clear ho0); obtain ⟨Ao50, co50, eo50⟩ := Kd.R_slice HO250.out; subst eo50; obtain ⟨Ao51, co51, eo51⟩ := Kd.R_slice HO253.out; subst eo51))
          go_ret
          exact ⟨by first | rfl | (simp [errW_none, errW_some] <;> rfl) | (simp [*, errW_none, errW_some] <;> rfl), by repeat (first | (with_reducible first | exact HB.out | apply below_alloc | apply pw_below_drewN | apply below_drew1 | refine below_set ?_ GE242.out) | exact HB.out)⟩
        ·rw [if_neg c30] at H
         have c30b0 : decide (x16_2 < (l0_0.length : Int)) = false := decide_eq_false c30
         clear c30
         replace H := Option.bind_eq_some_iff.mp H
         obtain ⟨t256, A520, H⟩ := H
         replace H : ((pacelineref08_Spread.f k2 l0_0 l0_1 a0_2 (Int.tmod (wrap64 (a1)) (l0_1.length : Int)) a2 a3 a4 l5).bind fun t259 => ((pacelinelaw08_same.f k2 t256 t259).bind fun t262 => (if t262 = true then ((config_Starts.f k2 l0_0 l0_1 a0_2).bind fun t263 => ((pacelineref08_Starts.f k2 l0_0 l0_1 a0_2).bind fun t266 => ((pacelinelaw08_same.f k2 t263 t266).bind fun t269 => (if t269 = true then ((pacelinelaw08_shown.f).bind fun t270 => (some t270)) else (some false))))) else (some false)))) = some r := H
         have A52 := Aside0.mk A520
         clear A520
         replace H := Option.bind_eq_some_iff.mp H
         obtain ⟨t259, A530, H⟩ := H
         replace H : ((pacelinelaw08_same.f k2 t256 t259).bind fun t262 => (if t262 = true then ((config_Starts.f k2 l0_0 l0_1 a0_2).bind fun t263 => ((pacelineref08_Starts.f k2 l0_0 l0_1 a0_2).bind fun t266 => ((pacelinelaw08_same.f k2 t263 t266).bind fun t269 => (if t269 = true then ((pacelinelaw08_shown.f).bind fun t270 => (some t270)) else (some false))))) else (some false))) = some r := H
         have A53 := Aside0.mk A530
         clear A530
         replace H := Option.bind_eq_some_iff.mp H
         obtain ⟨t262, A540, H⟩ := H
         replace H : (if t262 = true then ((config_Starts.f k2 l0_0 l0_1 a0_2).bind fun t263 => ((pacelineref08_Starts.f k2 l0_0 l0_1 a0_2).bind fun t266 => ((pacelinelaw08_same.f k2 t263 t266).bind fun t269 => (if t269 = true then ((pacelinelaw08_shown.f).bind fun t270 => (some t270)) else (some false))))) else (some false)) = some r := H
         have A54 := Aside0.mk A540
         clear A540
         by_cases c55 : t262 = true
         ·subst c55
          have H1 : ((config_Starts.f k2 l0_0 l0_1 a0_2).bind fun t263 => ((pacelineref08_Starts.f k2 l0_0 l0_1 a0_2).bind fun t266 => ((pacelinelaw08_same.f k2 t263 t266).bind fun t269 => (if t269 = true then ((pacelinelaw08_shown.f).bind fun t270 => (some t270)) else (some false))))) = some r := by rw [if_pos rfl] at H; exact H
          clear H
          have H := H1
          clear H1
          replace H := Option.bind_eq_some_iff.mp H
          obtain ⟨t263, A560, H⟩ := H
          replace H : ((pacelineref08_Starts.f k2 l0_0 l0_1 a0_2).bind fun t266 => ((pacelinelaw08_same.f k2 t263 t266).bind fun t269 => (if t269 = true then ((pacelinelaw08_shown.f).bind fun t270 => (some t270)) else (some false)))) = some r := H
          have A56 := Aside0.mk A560
          clear A560
          replace H := Option.bind_eq_some_iff.mp H
          obtain ⟨t266, A570, H⟩ := H
          replace H : ((pacelinelaw08_same.f k2 t263 t266).bind fun t269 => (if t269 = true then ((pacelinelaw08_shown.f).bind fun t270 => (some t270)) else (some false))) = some r := H
          have A57 := Aside0.mk A570
          clear A570
          replace H := Option.bind_eq_some_iff.mp H
          obtain ⟨t269, A580, H⟩ := H
          replace H : (if t269 = true then ((pacelinelaw08_shown.f).bind fun t270 => (some t270)) else (some false)) = some r := H
          have A58 := Aside0.mk A580
          clear A580
          by_cases c59 : t269 = true
          ·subst c59
           have H1 : ((pacelinelaw08_shown.f).bind fun t270 => (some t270)) = some r := by rw [if_pos rfl] at H; exact H
           clear H
           have H := H1
           clear H1
           replace H := Option.bind_eq_some_iff.mp H
           obtain ⟨t270, A600, H⟩ := H
           replace H : (some t270) = some r := H
           have A60 := Aside0.mk A600
           clear A600
           obtain rfl := Option.some.inj H
           have hcz61_0 : wr.cell? ⟨gb242, 0, none⟩ = some (.slice A0_0 l0_0.length c0_0) := (blk_cell BK242.out 0).trans rfl
           have hcz61_1 : wr.cell? ⟨gb242, 1, none⟩ = some (.slice A0_1 l0_1.length c0_1) := (blk_cell BK242.out 1).trans rfl
           have hcz61_2 : wr.cell? ⟨gb242, 2, none⟩ = some (.int .i64 a0_2) := (blk_cell BK242.out 2).trans rfl
           have hfz61_0 := blk_frozen BK242.out 0
           have hfz61_1 := blk_frozen BK242.out 1
           have hfz61_2 := blk_frozen BK242.out 2
           try go_wp2
           have n0_ := Aside0.mk (blk_drew BK242.out)
           have n1_ := Aside0.mk (below_drew1 HB.out)
           clear BK242
           clear HB
           have BK242 := n0_
           have HB := n1_
           clear n0_ n1_
           refine start_ (n := 26) (S := fun w' => w'.cell? ⟨gb242, 0, none⟩ = some (.slice A0_0 l0_0.length c0_0) ∧ w'.cell? ⟨gb242, 1, none⟩ = some (.slice A0_1 l0_1.length c0_1) ∧ w'.cell? ⟨gb242, 2, none⟩ = some (.int .i64 a0_2)) (ds := []) #[false, false, false, false, false, false, false, false, false, false, false, false, false, false, false, false, false, false, false, false, false, false, false, false, false, false] (by kernel_rfl) rfl rfl ⟨(blk_cell BK242.out 0).trans rfl, (blk_cell BK242.out 1).trans rfl, (blk_cell BK242.out 2).trans rfl⟩ (fun hHeld => ?_); refine with_tabW pacelinelaw08_ConfigSpreads.tab19 pacelinelaw08_ConfigSpreads.bits19 (fun HT_ HW_ => ?_)
           generalize wr.drew = w62 at BK242 HB hHeld ⊢
           refine pure_ (i := 1) (N := some 86) (v := ?_) (a' := ?_) #[false, true, false, false, false, false, false, false, false, false, false, false, false, false, false, false, false, false, false, false, false, false, false, false, false, false] rfl rfl (any_of HT_.out (by kernel_rfl)) (fun _ _ _ h => h) (Or.inl ⟨by rfl, ?_⟩) ?_ ?_
           rotate_left
           ·intro w'
            go_simp
            with_reducible rfl
           rotate_left
           ·simp only [Act.put, List.setIfInBounds_toArray, List.set_cons_zero, List.set_cons_succ, i64_w, i32_w]
            rfl
           refine pure_ (i := 2) (N := some 87) (v := ?_) (a' := ?_) #[false, true, true, false, false, false, false, false, false, false, false, false, false, false, false, false, false, false, false, false, false, false, false, false, false, false] rfl rfl (any_of HT_.out (by kernel_rfl)) (fun _ _ _ h => h) (Or.inl ⟨by rfl, ?_⟩) ?_ ?_
           rotate_left
           ·intro w'
            go_simp
            with_reducible rfl
           rotate_left
           ·simp only [Act.put, List.setIfInBounds_toArray, List.set_cons_zero, List.set_cons_succ, i64_w, i32_w]
            rfl
           refine pure_ (i := 3) (N := some 88) (v := ?_) (a' := ?_) #[false, true, true, true, false, false, false, false, false, false, false, false, false, false, false, false, false, false, false, false, false, false, false, false, false, false] rfl rfl (any_of HT_.out (by kernel_rfl)) (fun _ _ _ h => h) (Or.inl ⟨by rfl, ?_⟩) ?_ ?_
           rotate_left
           ·intro w'
            go_simp
            with_reducible rfl
           rotate_left
           ·simp only [Act.put, List.setIfInBounds_toArray, List.set_cons_zero, List.set_cons_succ, i64_w, i32_w]
            rfl
           refine pure_ (i := 4) (N := some 89) (v := ?_) (a' := ?_) #[false, true, true, true, true, false, false, false, false, false, false, false, false, false, false, false, false, false, false, false, false, false, false, false, false, false] rfl rfl (any_of HT_.out (by kernel_rfl)) (fun _ _ _ h => h) (Or.inl ⟨by rfl, ?_⟩) ?_ ?_
           rotate_left
           ·intro w'
            go_simp
            with_reducible rfl
           rotate_left
           ·simp only [Act.put, List.setIfInBounds_toArray, List.set_cons_zero, List.set_cons_succ, i64_w, i32_w]
            rfl
           refine pure_ (i := 5) (N := some 90) (v := ?_) (a' := ?_) #[false, true, true, true, true, true, false, false, false, false, false, false, false, false, false, false, false, false, false, false, false, false, false, false, false, false] rfl rfl (any_of HT_.out (by kernel_rfl)) (fun _ _ _ h => h) (Or.inl ⟨by rfl, ?_⟩) ?_ ?_
           rotate_left
           ·intro w'
            go_simp
            with_reducible rfl
           rotate_left
           ·simp only [Act.put, List.setIfInBounds_toArray, List.set_cons_zero, List.set_cons_succ, i64_w, i32_w]
            rfl
           refine pure_ (i := 8) (N := some 93) (v := ?_) (a' := ?_) #[false, true, true, true, true, true, false, false, true, false, false, false, false, false, false, false, false, false, false, false, false, false, false, false, false, false] rfl rfl (any_of HT_.out (by kernel_rfl)) (fun _ _ _ h => h) (Or.inl ⟨by rfl, ?_⟩) ?_ ?_
           rotate_left
           ·intro w'
            go_simp
            with_reducible rfl
           rotate_left
           ·simp only [Act.put, List.setIfInBounds_toArray, List.set_cons_zero, List.set_cons_succ, i64_w, i32_w]
            rfl
           refine pure_ (i := 9) (N := some 94) (v := ?_) (a' := ?_) #[false, true, true, true, true, true, false, false, true, true, false, false, false, false, false, false, false, false, false, false, false, false, false, false, false, false] rfl rfl (any_of HT_.out (by kernel_rfl)) (fun _ _ _ h => h) (Or.inl ⟨by rfl, ?_⟩) ?_ ?_
           rotate_left
           ·intro w'
            go_simp
            with_reducible rfl
           rotate_left
           ·simp only [Act.put, List.setIfInBounds_toArray, List.set_cons_zero, List.set_cons_succ, i64_w, i32_w]
            rfl
           refine pure_ (i := 10) (N := some 95) (v := ?_) (a' := ?_) #[false, true, true, true, true, true, false, false, true, true, true, false, false, false, false, false, false, false, false, false, false, false, false, false, false, false] rfl rfl (any_of HT_.out (by kernel_rfl)) (fun _ _ _ h => h) (Or.inl ⟨by rfl, ?_⟩) ?_ ?_
           rotate_left
           ·intro w'
            go_simp
            with_reducible rfl
           rotate_left
           ·simp only [Act.put, List.setIfInBounds_toArray, List.set_cons_zero, List.set_cons_succ, i64_w, i32_w]
            rfl
           refine pure_ (i := 11) (N := some 96) (v := ?_) (a' := ?_) #[false, true, true, true, true, true, false, false, true, true, true, true, false, false, false, false, false, false, false, false, false, false, false, false, false, false] rfl rfl (any_of HT_.out (by kernel_rfl)) (fun _ _ _ h => h) (Or.inl ⟨by rfl, ?_⟩) ?_ ?_
           rotate_left
           ·intro w'
            go_simp
            with_reducible rfl
           rotate_left
           ·simp only [Act.put, List.setIfInBounds_toArray, List.set_cons_zero, List.set_cons_succ, i64_w, i32_w]
            rfl
           refine pure_ (i := 12) (N := some 97) (v := ?_) (a' := ?_) #[false, true, true, true, true, true, false, false, true, true, true, true, true, false, false, false, false, false, false, false, false, false, false, false, false, false] rfl rfl (any_of HT_.out (by kernel_rfl)) (fun _ _ _ h => h) (Or.inl ⟨by rfl, ?_⟩) ?_ ?_
           rotate_left
           ·intro w'
            go_simp
            with_reducible rfl
           rotate_left
           ·simp only [Act.put, List.setIfInBounds_toArray, List.set_cons_zero, List.set_cons_succ, i64_w, i32_w]
            rfl
           refine take_ (i := 0) (N := some 85) (v := ?_) (a' := ?_) #[true, true, true, true, true, true, false, false, true, true, true, true, true, false, false, false, false, false, false, false, false, false, false, false, false, false] rfl rfl (take_ofW HT_.out HW_.out (by kernel_rfl)) (fun _ _ _ h => h) (Or.inl ⟨by rfl, ?_⟩) hHeld ?_ ?_
           rotate_left
           ·rintro w' ⟨s0, s1, s2⟩
            go_simp
            with_reducible rfl
           rotate_left
           ·simp only [Act.put, List.setIfInBounds_toArray, List.set_cons_zero, List.set_cons_succ, i64_w, i32_w]
            rfl
           refine take_ (i := 7) (N := some 92) (v := ?_) (a' := ?_) #[true, true, true, true, true, true, false, true, true, true, true, true, true, false, false, false, false, false, false, false, false, false, false, false, false, false] rfl rfl (take_ofW HT_.out HW_.out (by kernel_rfl)) (fun _ _ _ h => h) (Or.inl ⟨by rfl, ?_⟩) hHeld ?_ ?_
           rotate_left
           ·rintro w' ⟨s0, s1, s2⟩
            go_simp
            with_reducible rfl
           rotate_left
           ·simp only [Act.put, List.setIfInBounds_toArray, List.set_cons_zero, List.set_cons_succ, i64_w, i32_w]
            rfl
           refine one_ (i := 6) (N := some 91) #[true, true, true, true, true, true, true, true, true, true, true, true, true, false, false, false, false, false, false, false, false, false, false, false, false, false] rfl rfl (one_of HT_.out (by kernel_rfl)) (by decide) (fun K hK => ?_)
           refine goes_ Try.func16 (by kernel_rfl) rfl #[.agg #[.slice A0_0 l0_0.length c0_0, .slice A0_1 l0_1.length c0_1, .int .i64 a0_2], .int .i64 (Int.tmod (wrap64 (a1)) (l0_1.length : Int)), .int .i64 a2, .int .i64 a3, .int .i64 a4, .slice A5 l5.length c5] (by rfl) rfl rfl (by (try simp only [List.map_toArray, List.map_cons, List.map_nil]); first | done | rfl | (simp only [List.length_drop, List.length_take]; rfl)) ?_
           with_reducible refine (config_Spread.calls k2 _ _ l0_0 _ _ l0_1 a0_2 (Int.tmod (wrap64 (a1)) (l0_1.length : Int)) a2 a3 a4 _ _ l5 t256 _ ?side1 ?side2 ?side3 ?side4 ?side5 ?side6 A52.out).mono ?_
           (case side1 => repeat (first | exact (Kd.C_below HR0_0.out HB.out) | (with_reducible refine Kd.C_alloc ?_ _) | (with_reducible refine Kd.C_drewN ?_ _) | (with_reducible refine Kd.C_drew ?_)))
           (case side2 => exact HC0_0.out)
           (case side3 => repeat (first | exact (Kd.C_below HR0_1.out HB.out) | (with_reducible refine Kd.C_alloc ?_ _) | (with_reducible refine Kd.C_drewN ?_ _) | (with_reducible refine Kd.C_drew ?_)))
           (case side4 => exact HC0_1.out)
           (case side5 => repeat (first | exact (Kd.C_below HR5.out HB.out) | (with_reducible refine Kd.C_alloc ?_ _) | (with_reducible refine Kd.C_drewN ?_ _) | (with_reducible refine Kd.C_drew ?_)))
           (case side6 => exact HC5.out)
           rintro e w63 ⟨v257, rfl, ho0, hb⟩
           refine ⟨_, rfl, ?_⟩
           have n0_ := Aside0.mk (Kd.R_lower ho0 (below_size (by repeat (first | (with_reducible first | exact HB.out | apply below_alloc | apply pw_below_drewN | apply below_drew1 | refine below_set ?_ GE242.out) | exact HB.out))))
           have n1_ := Aside0.mk (blk_below (g := gb242) (o := .cells #[.slice A0_0 l0_0.length c0_0, .slice A0_1 l0_1.length c0_1, .int .i64 a0_2] 25 (0, 0)) (by (with_reducible repeat (first | refine blk_drewN ?_ _ | refine blk_drew ?_ | refine blk_alloc ?_ _)); exact BK242.out) hb)
           have n2_ := Aside0.mk (below_step (by repeat (first | (with_reducible first | exact HB.out | apply below_alloc | apply pw_below_drewN | apply below_drew1 | refine below_set ?_ GE242.out) | exact HB.out)) hb)
           clear BK242
           clear HB
           have HO258 := n0_
           have BK242 := n1_
           have HB := n2_
           clear n0_ n1_ n2_
           (try clear hb)
           (try clear hb2)
           (try clear hk)
           (try clear hi)
           (try clear ho0)
           refine hK.out _ _ ⟨(blk_cell BK242.out 0).trans rfl, (blk_cell BK242.out 1).trans rfl, (blk_cell BK242.out 2).trans rfl⟩ (fun hHeld => ?_)
           clear hK K
           refine norm_ (a' := ?_) ?_ ?_
           rotate_left
           ·show Act.put _ (some 91) _ = _
            simp only [Act.put, List.setIfInBounds_toArray, List.set_cons_zero, List.set_cons_succ, i64_w, i32_w]
            rfl
           refine one_ (i := 13) (N := some 98) #[true, true, true, true, true, true, true, true, true, true, true, true, true, true, false, false, false, false, false, false, false, false, false, false, false, false] rfl rfl (one_of HT_.out (by kernel_rfl)) (by decide) (fun K hK => ?_)
           refine goes_ Try.func17 (by kernel_rfl) rfl #[.agg #[.slice A0_0 l0_0.length c0_0, .slice A0_1 l0_1.length c0_1, .int .i64 a0_2], .int .i64 (Int.tmod (wrap64 (a1)) (l0_1.length : Int)), .int .i64 a2, .int .i64 a3, .int .i64 a4, .slice A5 l5.length c5] (by rfl) rfl rfl (by (try simp only [List.map_toArray, List.map_cons, List.map_nil]); first | done | rfl | (simp only [List.length_drop, List.length_take]; rfl)) ?_
           with_reducible refine (pacelineref08_Spread.calls k2 _ _ l0_0 _ _ l0_1 a0_2 (Int.tmod (wrap64 (a1)) (l0_1.length : Int)) a2 a3 a4 _ _ l5 t259 _ ?side1 ?side2 ?side3 ?side4 ?side5 ?side6 A53.out).mono ?_
           (case side1 => repeat (first | exact (Kd.C_below HR0_0.out HB.out) | (with_reducible refine Kd.C_alloc ?_ _) | (with_reducible refine Kd.C_drewN ?_ _) | (with_reducible refine Kd.C_drew ?_)))
           (case side2 => exact HC0_0.out)
           (case side3 => repeat (first | exact (Kd.C_below HR0_1.out HB.out) | (with_reducible refine Kd.C_alloc ?_ _) | (with_reducible refine Kd.C_drewN ?_ _) | (with_reducible refine Kd.C_drew ?_)))
           (case side4 => exact HC0_1.out)
           (case side5 => repeat (first | exact (Kd.C_below HR5.out HB.out) | (with_reducible refine Kd.C_alloc ?_ _) | (with_reducible refine Kd.C_drewN ?_ _) | (with_reducible refine Kd.C_drew ?_)))
           (case side6 => exact HC5.out)
           rintro e w64 ⟨v260, rfl, ho0, hb⟩
           refine ⟨_, rfl, ?_⟩
           have n0_ := Aside0.mk (Kd.R_elder' (by (with_reducible repeat (first | apply Kd.R_alloc | apply Kd.R_drewN | apply Kd.R_drew)); exact HO258.out) (Kd.R_base ho0) hb)
           have n1_ := Aside0.mk (Kd.R_lower (Kd.R_new' ho0 (Kd.R_lt (by (with_reducible repeat (first | apply Kd.R_alloc | apply Kd.R_drewN | apply Kd.R_drew)); exact HO258.out))) (below_size (by repeat (first | (with_reducible first | exact HB.out | apply below_alloc | apply pw_below_drewN | apply below_drew1 | refine below_set ?_ GE242.out) | exact HB.out))))
           have n2_ := Aside0.mk (blk_below (g := gb242) (o := .cells #[.slice A0_0 l0_0.length c0_0, .slice A0_1 l0_1.length c0_1, .int .i64 a0_2] 25 (0, 0)) (by (with_reducible repeat (first | refine blk_drewN ?_ _ | refine blk_drew ?_ | refine blk_alloc ?_ _)); exact BK242.out) hb)
           have n3_ := Aside0.mk (below_step (by repeat (first | (with_reducible first | exact HB.out | apply below_alloc | apply pw_below_drewN | apply below_drew1 | refine below_set ?_ GE242.out) | exact HB.out)) hb)
           clear HO258
           clear BK242
           clear HB
           have HO258 := n0_
           have HO261 := n1_
           have BK242 := n2_
           have HB := n3_
           clear n0_ n1_ n2_ n3_
           (try clear hb)
           (try clear hb2)
           (try clear hk)
           (try clear hi)
           (try clear ho0)
           obtain ⟨Ao65, co65, eo65⟩ := Kd.R_slice HO258.out
           (first | subst eo65 | (injection eo65 with f1_ f2_ f3_; have f4_ := f1_.symm; have f5_ := f3_.symm; clear f1_ f2_ f3_; subst f4_; subst f5_))
           obtain ⟨Ao66, co66, eo66⟩ := Kd.R_slice HO261.out
           (first | subst eo66 | (injection eo66 with f1_ f2_ f3_; have f4_ := f1_.symm; have f5_ := f3_.symm; clear f1_ f2_ f3_; subst f4_; subst f5_))
           refine hK.out _ _ ⟨(blk_cell BK242.out 0).trans rfl, (blk_cell BK242.out 1).trans rfl, (blk_cell BK242.out 2).trans rfl⟩ (fun hHeld => ?_)
           clear hK K
           refine norm_ (a' := ?_) ?_ ?_
           rotate_left
           ·show Act.put _ (some 98) _ = _
            simp only [Act.put, List.setIfInBounds_toArray, List.set_cons_zero, List.set_cons_succ, i64_w, i32_w]
            rfl
           refine one_ (i := 14) (N := some 99) #[true, true, true, true, true, true, true, true, true, true, true, true, true, true, true, false, false, false, false, false, false, false, false, false, false, false] rfl rfl (one_of HT_.out (by kernel_rfl)) (by decide) (fun K hK => ?_)
           refine goes_ Try.func15 (by kernel_rfl) rfl #[.slice Ao65 t256.length co65, .slice Ao66 t259.length co66] (by rfl) rfl rfl (by (try simp only [List.map_toArray, List.map_cons, List.map_nil]); first | done | rfl | (simp only [List.length_drop, List.length_take]; rfl)) ?_
           with_reducible refine (pacelinelaw08_same.calls k2 _ _ t256 _ _ t259 true _ ?side1 ?side2 ?side3 ?side4 A54.out).mono ?_
           (case side1 => repeat (first | exact (Kd.R_reads' HO258.out).2.2 | (with_reducible refine Kd.C_alloc ?_ _) | (with_reducible refine Kd.C_drewN ?_ _) | (with_reducible refine Kd.C_drew ?_)))
           (case side2 => exact (Kd.R_reads' HO258.out).2.1)
           (case side3 => repeat (first | exact (Kd.R_reads' HO261.out).2.2 | (with_reducible refine Kd.C_alloc ?_ _) | (with_reducible refine Kd.C_drewN ?_ _) | (with_reducible refine Kd.C_drew ?_)))
           (case side4 => exact (Kd.R_reads' HO261.out).2.1)
           rintro e w' ⟨rfl, ⟨nd, rfl⟩⟩
           refine ⟨_, rfl, ?_⟩
           refine hK.out _ _ ⟨(blk_cell BK242.out 0).trans rfl, (blk_cell BK242.out 1).trans rfl, (blk_cell BK242.out 2).trans rfl⟩ (fun hHeld => ?_)
           clear hK K
           refine norm_ (a' := ?_) ?_ ?_
           rotate_left
           ·show Act.put _ (some 99) _ = _
            simp only [Act.put, List.setIfInBounds_toArray, List.set_cons_zero, List.set_cons_succ, i64_w, i32_w]
            rfl
           refine pure_ (i := 15) (N := some 100) (v := ?_) (a' := ?_) #[true, true, true, true, true, true, true, true, true, true, true, true, true, true, true, true, false, false, false, false, false, false, false, false, false, false] rfl rfl (any_of HT_.out (by kernel_rfl)) (fun _ _ _ h => h) (Or.inl ⟨by rfl, ?_⟩) ?_ ?_
           rotate_left
           ·intro w'
            go_simp
            with_reducible rfl
           rotate_left
           ·simp only [Act.put, List.setIfInBounds_toArray, List.set_cons_zero, List.set_cons_succ, i64_w, i32_w]
            rfl
           refine take_ (i := 16) (N := some 101) (v := ?_) (a' := ?_) #[true, true, true, true, true, true, true, true, true, true, true, true, true, true, true, true, true, false, false, false, false, false, false, false, false, false] rfl rfl (take_ofW HT_.out HW_.out (by kernel_rfl)) (fun _ _ _ h => h) (Or.inl ⟨by rfl, ?_⟩) hHeld ?_ ?_
           rotate_left
           ·rintro w' ⟨s0, s1, s2⟩
            go_simp
            with_reducible rfl
           rotate_left
           ·simp only [Act.put, List.setIfInBounds_toArray, List.set_cons_zero, List.set_cons_succ, i64_w, i32_w]
            rfl
           refine take_ (i := 18) (N := some 103) (v := ?_) (a' := ?_) #[true, true, true, true, true, true, true, true, true, true, true, true, true, true, true, true, true, false, true, false, false, false, false, false, false, false] rfl rfl (take_ofW HT_.out HW_.out (by kernel_rfl)) (fun _ _ _ h => h) (Or.inl ⟨by rfl, ?_⟩) hHeld ?_ ?_
           rotate_left
           ·rintro w' ⟨s0, s1, s2⟩
            go_simp
            with_reducible rfl
           rotate_left
           ·simp only [Act.put, List.setIfInBounds_toArray, List.set_cons_zero, List.set_cons_succ, i64_w, i32_w]
            rfl
           refine one_ (i := 17) (N := some 102) #[true, true, true, true, true, true, true, true, true, true, true, true, true, true, true, true, true, true, true, false, false, false, false, false, false, false] rfl rfl (one_of HT_.out (by kernel_rfl)) (by decide) (fun K hK => ?_)
           refine goes_ Try.func18 (by kernel_rfl) rfl #[.agg #[.slice A0_0 l0_0.length c0_0, .slice A0_1 l0_1.length c0_1, .int .i64 a0_2]] (by rfl) rfl rfl (by (try simp only [List.map_toArray, List.map_cons, List.map_nil]); first | done | rfl | (simp only [List.length_drop, List.length_take]; rfl)) ?_
           with_reducible refine (config_Starts.calls k2 _ _ l0_0 _ _ l0_1 a0_2 t263 _ ?side1 ?side2 ?side3 ?side4 A56.out).mono ?_
           (case side1 => repeat (first | exact (Kd.C_below HR0_0.out (by repeat (first | (with_reducible first | exact HB.out | apply below_alloc | apply pw_below_drewN | apply below_drew1 | refine below_set ?_ GE242.out) | exact HB.out))) | (with_reducible refine Kd.C_alloc ?_ _) | (with_reducible refine Kd.C_drewN ?_ _) | (with_reducible refine Kd.C_drew ?_)))
           (case side2 => exact HC0_0.out)
           (case side3 => repeat (first | exact (Kd.C_below HR0_1.out (by repeat (first | (with_reducible first | exact HB.out | apply below_alloc | apply pw_below_drewN | apply below_drew1 | refine below_set ?_ GE242.out) | exact HB.out))) | (with_reducible refine Kd.C_alloc ?_ _) | (with_reducible refine Kd.C_drewN ?_ _) | (with_reducible refine Kd.C_drew ?_)))
           (case side4 => exact HC0_1.out)
           rintro e w67 ⟨v264, rfl, ho0, hb⟩
           refine ⟨_, rfl, ?_⟩
           have n0_ := Aside0.mk (Kd.R_elder' (by (with_reducible repeat (first | apply Kd.R_alloc | apply Kd.R_drewN | apply Kd.R_drew)); exact HO258.out) (Kd.R_base ho0) hb)
           have n1_ := Aside0.mk (Kd.R_elder' (by (with_reducible repeat (first | apply Kd.R_alloc | apply Kd.R_drewN | apply Kd.R_drew)); exact HO261.out) (Kd.R_base ho0) hb)
           have n2_ := Aside0.mk (Kd.R_lower (Kd.R_new' (Kd.R_new' ho0 (Kd.R_lt (by (with_reducible repeat (first | apply Kd.R_alloc | apply Kd.R_drewN | apply Kd.R_drew)); exact HO258.out))) (Kd.R_lt (by (with_reducible repeat (first | apply Kd.R_alloc | apply Kd.R_drewN | apply Kd.R_drew)); exact HO261.out))) (below_size (by repeat (first | (with_reducible first | exact HB.out | apply below_alloc | apply pw_below_drewN | apply below_drew1 | refine below_set ?_ GE242.out) | exact HB.out))))
           have n3_ := Aside0.mk (blk_below (g := gb242) (o := .cells #[.slice A0_0 l0_0.length c0_0, .slice A0_1 l0_1.length c0_1, .int .i64 a0_2] 25 (0, 0)) (by (with_reducible repeat (first | refine blk_drewN ?_ _ | refine blk_drew ?_ | refine blk_alloc ?_ _)); exact BK242.out) hb)
           have n4_ := Aside0.mk (below_step (by repeat (first | (with_reducible first | exact HB.out | apply below_alloc | apply pw_below_drewN | apply below_drew1 | refine below_set ?_ GE242.out) | exact HB.out)) hb)
           clear HO258
           clear HO261
           clear BK242
           clear HB
           have HO258 := n0_
           have HO261 := n1_
           have HO265 := n2_
           have BK242 := n3_
           have HB := n4_
           clear n0_ n1_ n2_ n3_ n4_
           (try clear hb)
           (try clear hb2)
           (try clear hk)
           (try clear hi)
           (try clear ho0)
           refine hK.out _ _ ⟨(blk_cell BK242.out 0).trans rfl, (blk_cell BK242.out 1).trans rfl, (blk_cell BK242.out 2).trans rfl⟩ (fun hHeld => ?_)
           clear hK K
           refine norm_ (a' := ?_) ?_ ?_
           rotate_left
           ·show Act.put _ (some 102) _ = _
            simp only [Act.put, List.setIfInBounds_toArray, List.set_cons_zero, List.set_cons_succ, i64_w, i32_w]
            rfl
           refine one_ (i := 19) (N := some 104) #[true, true, true, true, true, true, true, true, true, true, true, true, true, true, true, true, true, true, true, true, false, false, false, false, false, false] rfl rfl (one_of HT_.out (by kernel_rfl)) (by decide) (fun K hK => ?_)
           refine goes_ Try.func19 (by kernel_rfl) rfl #[.agg #[.slice A0_0 l0_0.length c0_0, .slice A0_1 l0_1.length c0_1, .int .i64 a0_2]] (by rfl) rfl rfl (by (try simp only [List.map_toArray, List.map_cons, List.map_nil]); first | done | rfl | (simp only [List.length_drop, List.length_take]; rfl)) ?_
           with_reducible refine (pacelineref08_Starts.calls k2 _ _ l0_0 _ _ l0_1 a0_2 t266 _ ?side1 ?side2 ?side3 ?side4 A57.out).mono ?_
           (case side1 => repeat (first | exact (Kd.C_below HR0_0.out HB.out) | (with_reducible refine Kd.C_alloc ?_ _) | (with_reducible refine Kd.C_drewN ?_ _) | (with_reducible refine Kd.C_drew ?_)))
           (case side2 => exact HC0_0.out)
           (case side3 => repeat (first | exact (Kd.C_below HR0_1.out HB.out) | (with_reducible refine Kd.C_alloc ?_ _) | (with_reducible refine Kd.C_drewN ?_ _) | (with_reducible refine Kd.C_drew ?_)))
           (case side4 => exact HC0_1.out)
           rintro e w68 ⟨v267, rfl, ho0, hb⟩
           refine ⟨_, rfl, ?_⟩
           have n0_ := Aside0.mk (Kd.R_elder' (by (with_reducible repeat (first | apply Kd.R_alloc | apply Kd.R_drewN | apply Kd.R_drew)); exact HO258.out) (Kd.R_base ho0) hb)
           have n1_ := Aside0.mk (Kd.R_elder' (by (with_reducible repeat (first | apply Kd.R_alloc | apply Kd.R_drewN | apply Kd.R_drew)); exact HO261.out) (Kd.R_base ho0) hb)
           have n2_ := Aside0.mk (Kd.R_elder' (by (with_reducible repeat (first | apply Kd.R_alloc | apply Kd.R_drewN | apply Kd.R_drew)); exact HO265.out) (Kd.R_base ho0) hb)
           have n3_ := Aside0.mk (Kd.R_lower (Kd.R_new' (Kd.R_new' (Kd.R_new' ho0 (Kd.R_lt (by (with_reducible repeat (first | apply Kd.R_alloc | apply Kd.R_drewN | apply Kd.R_drew)); exact HO258.out))) (Kd.R_lt (by (with_reducible repeat (first | apply Kd.R_alloc | apply Kd.R_drewN | apply Kd.R_drew)); exact HO261.out))) (Kd.R_lt (by (with_reducible repeat (first | apply Kd.R_alloc | apply Kd.R_drewN | apply Kd.R_drew)); exact HO265.out))) (below_size (by repeat (first | (with_reducible first | exact HB.out | apply below_alloc | apply pw_below_drewN | apply below_drew1 | refine below_set ?_ GE242.out) | exact HB.out))))
           have n4_ := Aside0.mk (blk_below (g := gb242) (o := .cells #[.slice A0_0 l0_0.length c0_0, .slice A0_1 l0_1.length c0_1, .int .i64 a0_2] 25 (0, 0)) (by (with_reducible repeat (first | refine blk_drewN ?_ _ | refine blk_drew ?_ | refine blk_alloc ?_ _)); exact BK242.out) hb)
           have n5_ := Aside0.mk (below_step (by repeat (first | (with_reducible first | exact HB.out | apply below_alloc | apply pw_below_drewN | apply below_drew1 | refine below_set ?_ GE242.out) | exact HB.out)) hb)
           clear HO258
           clear HO261
           clear HO265
           clear BK242
           clear HB
           have HO258 := n0_
           have HO261 := n1_
           have HO265 := n2_
           have HO268 := n3_
           have BK242 := n4_
           have HB := n5_
           clear n0_ n1_ n2_ n3_ n4_ n5_
           (try clear hb)
           (try clear hb2)
           (try clear hk)
           (try clear hi)
           (try clear ho0)
           obtain ⟨Ao69, co69, eo69⟩ := Kd.R_slice HO265.out
           (first | subst eo69 | (injection eo69 with f1_ f2_ f3_; have f4_ := f1_.symm; have f5_ := f3_.symm; clear f1_ f2_ f3_; subst f4_; subst f5_))
           obtain ⟨Ao70, co70, eo70⟩ := Kd.R_slice HO268.out
           (first | subst eo70 | (injection eo70 with f1_ f2_ f3_; have f4_ := f1_.symm; have f5_ := f3_.symm; clear f1_ f2_ f3_; subst f4_; subst f5_))
           refine hK.out _ _ ⟨(blk_cell BK242.out 0).trans rfl, (blk_cell BK242.out 1).trans rfl, (blk_cell BK242.out 2).trans rfl⟩ (fun hHeld => ?_)
           clear hK K
           refine norm_ (a' := ?_) ?_ ?_
           rotate_left
           ·show Act.put _ (some 104) _ = _
            simp only [Act.put, List.setIfInBounds_toArray, List.set_cons_zero, List.set_cons_succ, i64_w, i32_w]
            rfl
           refine one_ (i := 20) (N := some 105) #[true, true, true, true, true, true, true, true, true, true, true, true, true, true, true, true, true, true, true, true, true, false, false, false, false, false] rfl rfl (one_of HT_.out (by kernel_rfl)) (by decide) (fun K hK => ?_)
           refine goes_ Try.func15 (by kernel_rfl) rfl #[.slice Ao69 t263.length co69, .slice Ao70 t266.length co70] (by rfl) rfl rfl (by (try simp only [List.map_toArray, List.map_cons, List.map_nil]); first | done | rfl | (simp only [List.length_drop, List.length_take]; rfl)) ?_
           with_reducible refine (pacelinelaw08_same.calls k2 _ _ t263 _ _ t266 true _ ?side1 ?side2 ?side3 ?side4 A58.out).mono ?_
           (case side1 => repeat (first | exact (Kd.R_reads' HO265.out).2.2 | (with_reducible refine Kd.C_alloc ?_ _) | (with_reducible refine Kd.C_drewN ?_ _) | (with_reducible refine Kd.C_drew ?_)))
           (case side2 => exact (Kd.R_reads' HO265.out).2.1)
           (case side3 => repeat (first | exact (Kd.R_reads' HO268.out).2.2 | (with_reducible refine Kd.C_alloc ?_ _) | (with_reducible refine Kd.C_drewN ?_ _) | (with_reducible refine Kd.C_drew ?_)))
           (case side4 => exact (Kd.R_reads' HO268.out).2.1)
           rintro e w' ⟨rfl, ⟨nd, rfl⟩⟩
           refine ⟨_, rfl, ?_⟩
           refine hK.out _ _ ⟨(blk_cell BK242.out 0).trans rfl, (blk_cell BK242.out 1).trans rfl, (blk_cell BK242.out 2).trans rfl⟩ (fun hHeld => ?_)
           clear hK K
           refine norm_ (a' := ?_) ?_ ?_
           rotate_left
           ·show Act.put _ (some 105) _ = _
            simp only [Act.put, List.setIfInBounds_toArray, List.set_cons_zero, List.set_cons_succ, i64_w, i32_w]
            rfl
           refine pure_ (i := 21) (N := some 106) (v := ?_) (a' := ?_) #[true, true, true, true, true, true, true, true, true, true, true, true, true, true, true, true, true, true, true, true, true, true, false, false, false, false] rfl rfl (any_of HT_.out (by kernel_rfl)) (fun _ _ _ h => h) (Or.inl ⟨by rfl, ?_⟩) ?_ ?_
           rotate_left
           ·intro w'
            go_simp
            with_reducible rfl
           rotate_left
           ·simp only [Act.put, List.setIfInBounds_toArray, List.set_cons_zero, List.set_cons_succ, i64_w, i32_w]
            rfl
           refine pure_ (i := 22) (N := some 107) (v := ?_) (a' := ?_) #[true, true, true, true, true, true, true, true, true, true, true, true, true, true, true, true, true, true, true, true, true, true, true, false, false, false] rfl rfl (any_of HT_.out (by kernel_rfl)) (fun _ _ _ h => h) (Or.inl ⟨by rfl, ?_⟩) ?_ ?_
           rotate_left
           ·intro w'
            go_simp
            with_reducible rfl
           rotate_left
           ·simp only [Act.put, List.setIfInBounds_toArray, List.set_cons_zero, List.set_cons_succ, i64_w, i32_w]
            rfl
           refine one_ (i := 23) (N := some 108) #[true, true, true, true, true, true, true, true, true, true, true, true, true, true, true, true, true, true, true, true, true, true, true, true, false, false] rfl rfl (one_of HT_.out (by kernel_rfl)) (by decide) (fun K hK => ?_)
           refine goes_ Try.func12 (by kernel_rfl) rfl #[] (by rfl) rfl rfl (by (try simp only [List.map_toArray, List.map_cons, List.map_nil]); first | done | rfl | (simp only [List.length_drop, List.length_take]; rfl)) ?_
           with_reducible refine (pacelinelaw08_shown.calls  t270 _ A60.out).mono ?_
           rintro e w71 ⟨rfl, hb⟩
           refine ⟨_, rfl, ?_⟩
           have n0_ := Aside0.mk (Kd.R_below (by (with_reducible repeat (first | apply Kd.R_alloc | apply Kd.R_drewN | apply Kd.R_drew)); exact HO258.out) hb)
           have n1_ := Aside0.mk (Kd.R_below (by (with_reducible repeat (first | apply Kd.R_alloc | apply Kd.R_drewN | apply Kd.R_drew)); exact HO261.out) hb)
           have n2_ := Aside0.mk (Kd.R_below (by (with_reducible repeat (first | apply Kd.R_alloc | apply Kd.R_drewN | apply Kd.R_drew)); exact HO265.out) hb)
           have n3_ := Aside0.mk (Kd.R_below (by (with_reducible repeat (first | apply Kd.R_alloc | apply Kd.R_drewN | apply Kd.R_drew)); exact HO268.out) hb)
           have n4_ := Aside0.mk (blk_below (g := gb242) (o := .cells #[.slice A0_0 l0_0.length c0_0, .slice A0_1 l0_1.length c0_1, .int .i64 a0_2] 25 (0, 0)) (by (with_reducible repeat (first | refine blk_drewN ?_ _ | refine blk_drew ?_ | refine blk_alloc ?_ _)); exact BK242.out) hb)
           have n5_ := Aside0.mk (below_step (by repeat (first | (with_reducible first | exact HB.out | apply below_alloc | apply pw_below_drewN | apply below_drew1 | refine below_set ?_ GE242.out) | exact HB.out)) hb)
           clear HO258
           clear HO261
           clear HO265
           clear HO268
           clear BK242
           clear HB
           have HO258 := n0_
           have HO261 := n1_
           have HO265 := n2_
           have HO268 := n3_
           have BK242 := n4_
           have HB := n5_
           clear n0_ n1_ n2_ n3_ n4_ n5_
           (try clear hb)
           (try clear hb2)
           (try clear hk)
           (try clear hi)
           refine hK.out _ _ ⟨(blk_cell BK242.out 0).trans rfl, (blk_cell BK242.out 1).trans rfl, (blk_cell BK242.out 2).trans rfl⟩ (fun hHeld => ?_)
           clear hK K
           refine norm_ (a' := ?_) ?_ ?_
           rotate_left
           ·show Act.put _ (some 108) _ = _
            simp only [Act.put, List.setIfInBounds_toArray, List.set_cons_zero, List.set_cons_succ, i64_w, i32_w]
            rfl
           refine pure_ (i := 24) (N := some 109) (v := ?_) (a' := ?_) #[true, true, true, true, true, true, true, true, true, true, true, true, true, true, true, true, true, true, true, true, true, true, true, true, true, false] rfl rfl (any_of HT_.out (by kernel_rfl)) (fun _ _ _ h => h) (Or.inl ⟨by rfl, ?_⟩) ?_ ?_
           rotate_left
           ·intro w'
            go_simp
            with_reducible rfl
           rotate_left
           ·simp only [Act.put, List.setIfInBounds_toArray, List.set_cons_zero, List.set_cons_succ, i64_w, i32_w]
            rfl
           refine pure_ (i := 25) (N := some 12) (v := ?_) (a' := ?_) #[true, true, true, true, true, true, true, true, true, true, true, true, true, true, true, true, true, true, true, true, true, true, true, true, true, true] rfl rfl (any_of HT_.out (by kernel_rfl)) (fun _ _ _ h => h) (Or.inl ⟨by rfl, ?_⟩) ?_ ?_
           rotate_left
           ·intro w'
            go_simp
            with_reducible rfl
           rotate_left
           ·simp only [Act.put, List.setIfInBounds_toArray, List.set_cons_zero, List.set_cons_succ, i64_w, i32_w]
            rfl
           refine done_ (done_of HT_.out (by kernel_rfl)) ?_
           try go_wp2
           go_ret
           exact ⟨by first | rfl | (simp [errW_none, errW_some] <;> rfl) | (simp [*, errW_none, errW_some] <;> rfl), by repeat (first | (with_reducible first | exact HB.out | apply below_alloc | apply pw_below_drewN | apply below_drew1 | refine below_set ?_ GE242.out) | exact HB.out)⟩
          ·replace c59 := Bool.eq_false_iff.mpr c59
           subst c59
           have H1 : (some false) = some r := by rw [if_neg (show ¬ (false = true) by decide)] at H; exact H
           clear H
           have H := H1
           clear H1
           obtain rfl := Option.some.inj H
           have hcz72_0 : wr.cell? ⟨gb242, 0, none⟩ = some (.slice A0_0 l0_0.length c0_0) := (blk_cell BK242.out 0).trans rfl
           have hcz72_1 : wr.cell? ⟨gb242, 1, none⟩ = some (.slice A0_1 l0_1.length c0_1) := (blk_cell BK242.out 1).trans rfl
           have hcz72_2 : wr.cell? ⟨gb242, 2, none⟩ = some (.int .i64 a0_2) := (blk_cell BK242.out 2).trans rfl
           have hfz72_0 := blk_frozen BK242.out 0
           have hfz72_1 := blk_frozen BK242.out 1
           have hfz72_2 := blk_frozen BK242.out 2
           try go_wp2
           have n0_ := Aside0.mk (blk_drew BK242.out)
           have n1_ := Aside0.mk (below_drew1 HB.out)
           clear BK242
           clear HB
           have BK242 := n0_
           have HB := n1_
           clear n0_ n1_
           refine start_ (n := 26) (S := fun w' => w'.cell? ⟨gb242, 0, none⟩ = some (.slice A0_0 l0_0.length c0_0) ∧ w'.cell? ⟨gb242, 1, none⟩ = some (.slice A0_1 l0_1.length c0_1) ∧ w'.cell? ⟨gb242, 2, none⟩ = some (.int .i64 a0_2)) (ds := []) #[false, false, false, false, false, false, false, false, false, false, false, false, false, false, false, false, false, false, false, false, false, false, false, false, false, false] (by kernel_rfl) rfl rfl ⟨(blk_cell BK242.out 0).trans rfl, (blk_cell BK242.out 1).trans rfl, (blk_cell BK242.out 2).trans rfl⟩ (fun hHeld => ?_); refine with_tabW pacelinelaw08_ConfigSpreads.tab19 pacelinelaw08_ConfigSpreads.bits19 (fun HT_ HW_ => ?_)
           generalize wr.drew = w73 at BK242 HB hHeld ⊢
           refine pure_ (i := 1) (N := some 86) (v := ?_) (a' := ?_) #[false, true, false, false, false, false, false, false, false, false, false, false, false, false, false, false, false, false, false, false, false, false, false, false, false, false] rfl rfl (any_of HT_.out (by kernel_rfl)) (fun _ _ _ h => h) (Or.inl ⟨by rfl, ?_⟩) ?_ ?_
           rotate_left
           ·intro w'
            go_simp
            with_reducible rfl
           rotate_left
           ·simp only [Act.put, List.setIfInBounds_toArray, List.set_cons_zero, List.set_cons_succ, i64_w, i32_w]
            rfl
           refine pure_ (i := 2) (N := some 87) (v := ?_) (a' := ?_) #[false, true, true, false, false, false, false, false, false, false, false, false, false, false, false, false, false, false, false, false, false, false, false, false, false, false] rfl rfl (any_of HT_.out (by kernel_rfl)) (fun _ _ _ h => h) (Or.inl ⟨by rfl, ?_⟩) ?_ ?_
           rotate_left
           ·intro w'
            go_simp
            with_reducible rfl
           rotate_left
           ·simp only [Act.put, List.setIfInBounds_toArray, List.set_cons_zero, List.set_cons_succ, i64_w, i32_w]
            rfl
           refine pure_ (i := 3) (N := some 88) (v := ?_) (a' := ?_) #[false, true, true, true, false, false, false, false, false, false, false, false, false, false, false, false, false, false, false, false, false, false, false, false, false, false] rfl rfl (any_of HT_.out (by kernel_rfl)) (fun _ _ _ h => h) (Or.inl ⟨by rfl, ?_⟩) ?_ ?_
           rotate_left
           ·intro w'
            go_simp
            with_reducible rfl
           rotate_left
           ·simp only [Act.put, List.setIfInBounds_toArray, List.set_cons_zero, List.set_cons_succ, i64_w, i32_w]
            rfl
           refine pure_ (i := 4) (N := some 89) (v := ?_) (a' := ?_) #[false, true, true, true, true, false, false, false, false, false, false, false, false, false, false, false, false, false, false, false, false, false, false, false, false, false] rfl rfl (any_of HT_.out (by kernel_rfl)) (fun _ _ _ h => h) (Or.inl ⟨by rfl, ?_⟩) ?_ ?_
           rotate_left
           ·intro w'
            go_simp
            with_reducible rfl
           rotate_left
           ·simp only [Act.put, List.setIfInBounds_toArray, List.set_cons_zero, List.set_cons_succ, i64_w, i32_w]
            rfl
           refine pure_ (i := 5) (N := some 90) (v := ?_) (a' := ?_) #[false, true, true, true, true, true, false, false, false, false, false, false, false, false, false, false, false, false, false, false, false, false, false, false, false, false] rfl rfl (any_of HT_.out (by kernel_rfl)) (fun _ _ _ h => h) (Or.inl ⟨by rfl, ?_⟩) ?_ ?_
           rotate_left
           ·intro w'
            go_simp
            with_reducible rfl
           rotate_left
           ·simp only [Act.put, List.setIfInBounds_toArray, List.set_cons_zero, List.set_cons_succ, i64_w, i32_w]
            rfl
           refine pure_ (i := 8) (N := some 93) (v := ?_) (a' := ?_) #[false, true, true, true, true, true, false, false, true, false, false, false, false, false, false, false, false, false, false, false, false, false, false, false, false, false] rfl rfl (any_of HT_.out (by kernel_rfl)) (fun _ _ _ h => h) (Or.inl ⟨by rfl, ?_⟩) ?_ ?_
           rotate_left
           ·intro w'
            go_simp
            with_reducible rfl
           rotate_left
           ·simp only [Act.put, List.setIfInBounds_toArray, List.set_cons_zero, List.set_cons_succ, i64_w, i32_w]
            rfl
           refine pure_ (i := 9) (N := some 94) (v := ?_) (a' := ?_) #[false, true, true, true, true, true, false, false, true, true, false, false, false, false, false, false, false, false, false, false, false, false, false, false, false, false] rfl rfl (any_of HT_.out (by kernel_rfl)) (fun _ _ _ h => h) (Or.inl ⟨by rfl, ?_⟩) ?_ ?_
           rotate_left
           ·intro w'
            go_simp
            with_reducible rfl
           rotate_left
           ·simp only [Act.put, List.setIfInBounds_toArray, List.set_cons_zero, List.set_cons_succ, i64_w, i32_w]
            rfl
           refine pure_ (i := 10) (N := some 95) (v := ?_) (a' := ?_) #[false, true, true, true, true, true, false, false, true, true, true, false, false, false, false, false, false, false, false, false, false, false, false, false, false, false] rfl rfl (any_of HT_.out (by kernel_rfl)) (fun _ _ _ h => h) (Or.inl ⟨by rfl, ?_⟩) ?_ ?_
           rotate_left
           ·intro w'
            go_simp
            with_reducible rfl
           rotate_left
           ·simp only [Act.put, List.setIfInBounds_toArray, List.set_cons_zero, List.set_cons_succ, i64_w, i32_w]
            rfl
           refine pure_ (i := 11) (N := some 96) (v := ?_) (a' := ?_) #[false, true, true, true, true, true, false, false, true, true, true, true, false, false, false, false, false, false, false, false, false, false, false, false, false, false] rfl rfl (any_of HT_.out (by kernel_rfl)) (fun _ _ _ h => h) (Or.inl ⟨by rfl, ?_⟩) ?_ ?_
           rotate_left
           ·intro w'
            go_simp
            with_reducible rfl
           rotate_left
           ·simp only [Act.put, List.setIfInBounds_toArray, List.set_cons_zero, List.set_cons_succ, i64_w, i32_w]
            rfl
           refine pure_ (i := 12) (N := some 97) (v := ?_) (a' := ?_) #[false, true, true, true, true, true, false, false, true, true, true, true, true, false, false, false, false, false, false, false, false, false, false, false, false, false] rfl rfl (any_of HT_.out (by kernel_rfl)) (fun _ _ _ h => h) (Or.inl ⟨by rfl, ?_⟩) ?_ ?_
           rotate_left
           ·intro w'
            go_simp
            with_reducible rfl
           rotate_left
           ·simp only [Act.put, List.setIfInBounds_toArray, List.set_cons_zero, List.set_cons_succ, i64_w, i32_w]
            rfl
           refine take_ (i := 0) (N := some 85) (v := ?_) (a' := ?_) #[true, true, true, true, true, true, false, false, true, true, true, true, true, false, false, false, false, false, false, false, false, false, false, false, false, false] rfl rfl (take_ofW HT_.out HW_.out (by kernel_rfl)) (fun _ _ _ h => h) (Or.inl ⟨by rfl, ?_⟩) hHeld ?_ ?_
           rotate_left
           ·rintro w' ⟨s0, s1, s2⟩
            go_simp
            with_reducible rfl
           rotate_left
           ·simp only [Act.put, List.setIfInBounds_toArray, List.set_cons_zero, List.set_cons_succ, i64_w, i32_w]
            rfl
           refine take_ (i := 7) (N := some 92) (v := ?_) (a' := ?_) #[true, true, true, true, true, true, false, true, true, true, true, true, true, false, false, false, false, false, false, false, false, false, false, false, false, false] rfl rfl (take_ofW HT_.out HW_.out (by kernel_rfl)) (fun _ _ _ h => h) (Or.inl ⟨by rfl, ?_⟩) hHeld ?_ ?_
           rotate_left
           ·rintro w' ⟨s0, s1, s2⟩
            go_simp
            with_reducible rfl
           rotate_left
           ·simp only [Act.put, List.setIfInBounds_toArray, List.set_cons_zero, List.set_cons_succ, i64_w, i32_w]
            rfl
           refine one_ (i := 6) (N := some 91) #[true, true, true, true, true, true, true, true, true, true, true, true, true, false, false, false, false, false, false, false, false, false, false, false, false, false] rfl rfl (one_of HT_.out (by kernel_rfl)) (by decide) (fun K hK => ?_)
           refine goes_ Try.func16 (by kernel_rfl) rfl #[.agg #[.slice A0_0 l0_0.length c0_0, .slice A0_1 l0_1.length c0_1, .int .i64 a0_2], .int .i64 (Int.tmod (wrap64 (a1)) (l0_1.length : Int)), .int .i64 a2, .int .i64 a3, .int .i64 a4, .slice A5 l5.length c5] (by rfl) rfl rfl (by (try simp only [List.map_toArray, List.map_cons, List.map_nil]); first | done | rfl | (simp only [List.length_drop, List.length_take]; rfl)) ?_
           with_reducible refine (config_Spread.calls k2 _ _ l0_0 _ _ l0_1 a0_2 (Int.tmod (wrap64 (a1)) (l0_1.length : Int)) a2 a3 a4 _ _ l5 t256 _ ?side1 ?side2 ?side3 ?side4 ?side5 ?side6 A52.out).mono ?_
           (case side1 => repeat (first | exact (Kd.C_below HR0_0.out HB.out) | (with_reducible refine Kd.C_alloc ?_ _) | (with_reducible refine Kd.C_drewN ?_ _) | (with_reducible refine Kd.C_drew ?_)))
           (case side2 => exact HC0_0.out)
           (case side3 => repeat (first | exact (Kd.C_below HR0_1.out HB.out) | (with_reducible refine Kd.C_alloc ?_ _) | (with_reducible refine Kd.C_drewN ?_ _) | (with_reducible refine Kd.C_drew ?_)))
           (case side4 => exact HC0_1.out)
           (case side5 => repeat (first | exact (Kd.C_below HR5.out HB.out) | (with_reducible refine Kd.C_alloc ?_ _) | (with_reducible refine Kd.C_drewN ?_ _) | (with_reducible refine Kd.C_drew ?_)))
           (case side6 => exact HC5.out)
           rintro e w74 ⟨v257, rfl, ho0, hb⟩
           refine ⟨_, rfl, ?_⟩
           have n0_ := Aside0.mk (Kd.R_lower ho0 (below_size (by repeat (first | (with_reducible first | exact HB.out | apply below_alloc | apply pw_below_drewN | apply below_drew1 | refine below_set ?_ GE242.out) | exact HB.out))))
           have n1_ := Aside0.mk (blk_below (g := gb242) (o := .cells #[.slice A0_0 l0_0.length c0_0, .slice A0_1 l0_1.length c0_1, .int .i64 a0_2] 25 (0, 0)) (by (with_reducible repeat (first | refine blk_drewN ?_ _ | refine blk_drew ?_ | refine blk_alloc ?_ _)); exact BK242.out) hb)
           have n2_ := Aside0.mk (below_step (by repeat (first | (with_reducible first | exact HB.out | apply below_alloc | apply pw_below_drewN | apply below_drew1 | refine below_set ?_ GE242.out) | exact HB.out)) hb)
           clear BK242
           clear HB
           have HO258 := n0_
           have BK242 := n1_
           have HB := n2_
           clear n0_ n1_ n2_
           (try clear hb)
           (try clear hb2)
           (try clear hk)
           (try clear hi)
           (try clear ho0)
           refine hK.out _ _ ⟨(blk_cell BK242.out 0).trans rfl, (blk_cell BK242.out 1).trans rfl, (blk_cell BK242.out 2).trans rfl⟩ (fun hHeld => ?_)
           clear hK K
           refine norm_ (a' := ?_) ?_ ?_
           rotate_left
           ·show Act.put _ (some 91) _ = _
            simp only [Act.put, List.setIfInBounds_toArray, List.set_cons_zero, List.set_cons_succ, i64_w, i32_w]
            rfl
           refine one_ (i := 13) (N := some 98) #[true, true, true, true, true, true, true, true, true, true, true, true, true, true, false, false, false, false, false, false, false, false, false, false, false, false] rfl rfl (one_of HT_.out (by kernel_rfl)) (by decide) (fun K hK => ?_)
           refine goes_ Try.func17 (by kernel_rfl) rfl #[.agg #[.slice A0_0 l0_0.length c0_0, .slice A0_1 l0_1.length c0_1, .int .i64 a0_2], .int .i64 (Int.tmod (wrap64 (a1)) (l0_1.length : Int)), .int .i64 a2, .int .i64 a3, .int .i64 a4, .slice A5 l5.length c5] (by rfl) rfl rfl (by (try simp only [List.map_toArray, List.map_cons, List.map_nil]); first | done | rfl | (simp only [List.length_drop, List.length_take]; rfl)) ?_
           with_reducible refine (pacelineref08_Spread.calls k2 _ _ l0_0 _ _ l0_1 a0_2 (Int.tmod (wrap64 (a1)) (l0_1.length : Int)) a2 a3 a4 _ _ l5 t259 _ ?side1 ?side2 ?side3 ?side4 ?side5 ?side6 A53.out).mono ?_
           (case side1 => repeat (first | exact (Kd.C_below HR0_0.out HB.out) | (with_reducible refine Kd.C_alloc ?_ _) | (with_reducible refine Kd.C_drewN ?_ _) | (with_reducible refine Kd.C_drew ?_)))
           (case side2 => exact HC0_0.out)
           (case side3 => repeat (first | exact (Kd.C_below HR0_1.out HB.out) | (with_reducible refine Kd.C_alloc ?_ _) | (with_reducible refine Kd.C_drewN ?_ _) | (with_reducible refine Kd.C_drew ?_)))
           (case side4 => exact HC0_1.out)
           (case side5 => repeat (first | exact (Kd.C_below HR5.out HB.out) | (with_reducible refine Kd.C_alloc ?_ _) | (with_reducible refine Kd.C_drewN ?_ _) | (with_reducible refine Kd.C_drew ?_)))
           (case side6 => exact HC5.out)
           rintro e w75 ⟨v260, rfl, ho0, hb⟩
           refine ⟨_, rfl, ?_⟩
           have n0_ := Aside0.mk (Kd.R_elder' (by (with_reducible repeat (first | apply Kd.R_alloc | apply Kd.R_drewN | apply Kd.R_drew)); exact HO258.out) (Kd.R_base ho0) hb)
           have n1_ := Aside0.mk (Kd.R_lower (Kd.R_new' ho0 (Kd.R_lt (by (with_reducible repeat (first | apply Kd.R_alloc | apply Kd.R_drewN | apply Kd.R_drew)); exact HO258.out))) (below_size (by repeat (first | (with_reducible first | exact HB.out | apply below_alloc | apply pw_below_drewN | apply below_drew1 | refine below_set ?_ GE242.out) | exact HB.out))))
           have n2_ := Aside0.mk (blk_below (g := gb242) (o := .cells #[.slice A0_0 l0_0.length c0_0, .slice A0_1 l0_1.length c0_1, .int .i64 a0_2] 25 (0, 0)) (by (with_reducible repeat (first | refine blk_drewN ?_ _ | refine blk_drew ?_ | refine blk_alloc ?_ _)); exact BK242.out) hb)
           have n3_ := Aside0.mk (below_step (by repeat (first | (with_reducible first | exact HB.out | apply below_alloc | apply pw_below_drewN | apply below_drew1 | refine below_set ?_ GE242.out) | exact HB.out)) hb)
           clear HO258
           clear BK242
           clear HB
           have HO258 := n0_
           have HO261 := n1_
           have BK242 := n2_
           have HB := n3_
           clear n0_ n1_ n2_ n3_
           (try clear hb)
           (try clear hb2)
           (try clear hk)
           (try clear hi)
           (try clear ho0)
           obtain ⟨Ao76, co76, eo76⟩ := Kd.R_slice HO258.out
           (first | subst eo76 | (injection eo76 with f1_ f2_ f3_; have f4_ := f1_.symm; have f5_ := f3_.symm; clear f1_ f2_ f3_; subst f4_; subst f5_))
           obtain ⟨Ao77, co77, eo77⟩ := Kd.R_slice HO261.out
           (first | subst eo77 | (injection eo77 with f1_ f2_ f3_; have f4_ := f1_.symm; have f5_ := f3_.symm; clear f1_ f2_ f3_; subst f4_; subst f5_))
           refine hK.out _ _ ⟨(blk_cell BK242.out 0).trans rfl, (blk_cell BK242.out 1).trans rfl, (blk_cell BK242.out 2).trans rfl⟩ (fun hHeld => ?_)
           clear hK K
           refine norm_ (a' := ?_) ?_ ?_
           rotate_left
           ·show Act.put _ (some 98) _ = _
            simp only [Act.put, List.setIfInBounds_toArray, List.set_cons_zero, List.set_cons_succ, i64_w, i32_w]
            rfl
           refine one_ (i := 14) (N := some 99) #[true, true, true, true, true, true, true, true, true, true, true, true, true, true, true, false, false, false, false, false, false, false, false, false, false, false] rfl rfl (one_of HT_.out (by kernel_rfl)) (by decide) (fun K hK => ?_)
           refine goes_ Try.func15 (by kernel_rfl) rfl #[.slice Ao76 t256.length co76, .slice Ao77 t259.length co77] (by rfl) rfl rfl (by (try simp only [List.map_toArray, List.map_cons, List.map_nil]); first | done | rfl | (simp only [List.length_drop, List.length_take]; rfl)) ?_
           with_reducible refine (pacelinelaw08_same.calls k2 _ _ t256 _ _ t259 true _ ?side1 ?side2 ?side3 ?side4 A54.out).mono ?_
           (case side1 => repeat (first | exact (Kd.R_reads' HO258.out).2.2 | (with_reducible refine Kd.C_alloc ?_ _) | (with_reducible refine Kd.C_drewN ?_ _) | (with_reducible refine Kd.C_drew ?_)))
           (case side2 => exact (Kd.R_reads' HO258.out).2.1)
           (case side3 => repeat (first | exact (Kd.R_reads' HO261.out).2.2 | (with_reducible refine Kd.C_alloc ?_ _) | (with_reducible refine Kd.C_drewN ?_ _) | (with_reducible refine Kd.C_drew ?_)))
           (case side4 => exact (Kd.R_reads' HO261.out).2.1)
           rintro e w' ⟨rfl, ⟨nd, rfl⟩⟩
           refine ⟨_, rfl, ?_⟩
           refine hK.out _ _ ⟨(blk_cell BK242.out 0).trans rfl, (blk_cell BK242.out 1).trans rfl, (blk_cell BK242.out 2).trans rfl⟩ (fun hHeld => ?_)
           clear hK K
           refine norm_ (a' := ?_) ?_ ?_
           rotate_left
           ·show Act.put _ (some 99) _ = _
            simp only [Act.put, List.setIfInBounds_toArray, List.set_cons_zero, List.set_cons_succ, i64_w, i32_w]
            rfl
           refine pure_ (i := 15) (N := some 100) (v := ?_) (a' := ?_) #[true, true, true, true, true, true, true, true, true, true, true, true, true, true, true, true, false, false, false, false, false, false, false, false, false, false] rfl rfl (any_of HT_.out (by kernel_rfl)) (fun _ _ _ h => h) (Or.inl ⟨by rfl, ?_⟩) ?_ ?_
           rotate_left
           ·intro w'
            go_simp
            with_reducible rfl
           rotate_left
           ·simp only [Act.put, List.setIfInBounds_toArray, List.set_cons_zero, List.set_cons_succ, i64_w, i32_w]
            rfl
           refine take_ (i := 16) (N := some 101) (v := ?_) (a' := ?_) #[true, true, true, true, true, true, true, true, true, true, true, true, true, true, true, true, true, false, false, false, false, false, false, false, false, false] rfl rfl (take_ofW HT_.out HW_.out (by kernel_rfl)) (fun _ _ _ h => h) (Or.inl ⟨by rfl, ?_⟩) hHeld ?_ ?_
           rotate_left
           ·rintro w' ⟨s0, s1, s2⟩
            go_simp
            with_reducible rfl
           rotate_left
           ·simp only [Act.put, List.setIfInBounds_toArray, List.set_cons_zero, List.set_cons_succ, i64_w, i32_w]
            rfl
           refine take_ (i := 18) (N := some 103) (v := ?_) (a' := ?_) #[true, true, true, true, true, true, true, true, true, true, true, true, true, true, true, true, true, false, true, false, false, false, false, false, false, false] rfl rfl (take_ofW HT_.out HW_.out (by kernel_rfl)) (fun _ _ _ h => h) (Or.inl ⟨by rfl, ?_⟩) hHeld ?_ ?_
           rotate_left
           ·rintro w' ⟨s0, s1, s2⟩
            go_simp
            with_reducible rfl
           rotate_left
           ·simp only [Act.put, List.setIfInBounds_toArray, List.set_cons_zero, List.set_cons_succ, i64_w, i32_w]
            rfl
           refine one_ (i := 17) (N := some 102) #[true, true, true, true, true, true, true, true, true, true, true, true, true, true, true, true, true, true, true, false, false, false, false, false, false, false] rfl rfl (one_of HT_.out (by kernel_rfl)) (by decide) (fun K hK => ?_)
           refine goes_ Try.func18 (by kernel_rfl) rfl #[.agg #[.slice A0_0 l0_0.length c0_0, .slice A0_1 l0_1.length c0_1, .int .i64 a0_2]] (by rfl) rfl rfl (by (try simp only [List.map_toArray, List.map_cons, List.map_nil]); first | done | rfl | (simp only [List.length_drop, List.length_take]; rfl)) ?_
           with_reducible refine (config_Starts.calls k2 _ _ l0_0 _ _ l0_1 a0_2 t263 _ ?side1 ?side2 ?side3 ?side4 A56.out).mono ?_
           (case side1 => repeat (first | exact (Kd.C_below HR0_0.out (by repeat (first | (with_reducible first | exact HB.out | apply below_alloc | apply pw_below_drewN | apply below_drew1 | refine below_set ?_ GE242.out) | exact HB.out))) | (with_reducible refine Kd.C_alloc ?_ _) | (with_reducible refine Kd.C_drewN ?_ _) | (with_reducible refine Kd.C_drew ?_)))
           (case side2 => exact HC0_0.out)
           (case side3 => repeat (first | exact (Kd.C_below HR0_1.out (by repeat (first | (with_reducible first | exact HB.out | apply below_alloc | apply pw_below_drewN | apply below_drew1 | refine below_set ?_ GE242.out) | exact HB.out))) | (with_reducible refine Kd.C_alloc ?_ _) | (with_reducible refine Kd.C_drewN ?_ _) | (with_reducible refine Kd.C_drew ?_)))
           (case side4 => exact HC0_1.out)
           rintro e w78 ⟨v264, rfl, ho0, hb⟩
           refine ⟨_, rfl, ?_⟩
           have n0_ := Aside0.mk (Kd.R_elder' (by (with_reducible repeat (first | apply Kd.R_alloc | apply Kd.R_drewN | apply Kd.R_drew)); exact HO258.out) (Kd.R_base ho0) hb)
           have n1_ := Aside0.mk (Kd.R_elder' (by (with_reducible repeat (first | apply Kd.R_alloc | apply Kd.R_drewN | apply Kd.R_drew)); exact HO261.out) (Kd.R_base ho0) hb)
           have n2_ := Aside0.mk (Kd.R_lower (Kd.R_new' (Kd.R_new' ho0 (Kd.R_lt (by (with_reducible repeat (first | apply Kd.R_alloc | apply Kd.R_drewN | apply Kd.R_drew)); exact HO258.out))) (Kd.R_lt (by (with_reducible repeat (first | apply Kd.R_alloc | apply Kd.R_drewN | apply Kd.R_drew)); exact HO261.out))) (below_size (by repeat (first | (with_reducible first | exact HB.out | apply below_alloc | apply pw_below_drewN | apply below_drew1 | refine below_set ?_ GE242.out) | exact HB.out))))
           have n3_ := Aside0.mk (blk_below (g := gb242) (o := .cells #[.slice A0_0 l0_0.length c0_0, .slice A0_1 l0_1.length c0_1, .int .i64 a0_2] 25 (0, 0)) (by (with_reducible repeat (first | refine blk_drewN ?_ _ | refine blk_drew ?_ | refine blk_alloc ?_ _)); exact BK242.out) hb)
           have n4_ := Aside0.mk (below_step (by repeat (first | (with_reducible first | exact HB.out | apply below_alloc | apply pw_below_drewN | apply below_drew1 | refine below_set ?_ GE242.out) | exact HB.out)) hb)
           clear HO258
           clear HO261
           clear BK242
           clear HB
           have HO258 := n0_
           have HO261 := n1_
           have HO265 := n2_
           have BK242 := n3_
           have HB := n4_
           clear n0_ n1_ n2_ n3_ n4_
           (try clear hb)
           (try clear hb2)
           (try clear hk)
           (try clear hi)
           (try clear ho0)
           refine hK.out _ _ ⟨(blk_cell BK242.out 0).trans rfl, (blk_cell BK242.out 1).trans rfl, (blk_cell BK242.out 2).trans rfl⟩ (fun hHeld => ?_)
           clear hK K
           refine norm_ (a' := ?_) ?_ ?_
           rotate_left
           ·show Act.put _ (some 102) _ = _
            simp only [Act.put, List.setIfInBounds_toArray, List.set_cons_zero, List.set_cons_succ, i64_w, i32_w]
            rfl
           refine one_ (i := 19) (N := some 104) #[true, true, true, true, true, true, true, true, true, true, true, true, true, true, true, true, true, true, true, true, false, false, false, false, false, false] rfl rfl (one_of HT_.out (by kernel_rfl)) (by decide) (fun K hK => ?_)
           refine goes_ Try.func19 (by kernel_rfl) rfl #[.agg #[.slice A0_0 l0_0.length c0_0, .slice A0_1 l0_1.length c0_1, .int .i64 a0_2]] (by rfl) rfl rfl (by (try simp only [List.map_toArray, List.map_cons, List.map_nil]); first | done | rfl | (simp only [List.length_drop, List.length_take]; rfl)) ?_
           with_reducible refine (pacelineref08_Starts.calls k2 _ _ l0_0 _ _ l0_1 a0_2 t266 _ ?side1 ?side2 ?side3 ?side4 A57.out).mono ?_
           (case side1 => repeat (first | exact (Kd.C_below HR0_0.out HB.out) | (with_reducible refine Kd.C_alloc ?_ _) | (with_reducible refine Kd.C_drewN ?_ _) | (with_reducible refine Kd.C_drew ?_)))
           (case side2 => exact HC0_0.out)
           (case side3 => repeat (first | exact (Kd.C_below HR0_1.out HB.out) | (with_reducible refine Kd.C_alloc ?_ _) | (with_reducible refine Kd.C_drewN ?_ _) | (with_reducible refine Kd.C_drew ?_)))
           (case side4 => exact HC0_1.out)
           rintro e w79 ⟨v267, rfl, ho0, hb⟩
           refine ⟨_, rfl, ?_⟩
           have n0_ := Aside0.mk (Kd.R_elder' (by (with_reducible repeat (first | apply Kd.R_alloc | apply Kd.R_drewN | apply Kd.R_drew)); exact HO258.out) (Kd.R_base ho0) hb)
           have n1_ := Aside0.mk (Kd.R_elder' (by (with_reducible repeat (first | apply Kd.R_alloc | apply Kd.R_drewN | apply Kd.R_drew)); exact HO261.out) (Kd.R_base ho0) hb)
           have n2_ := Aside0.mk (Kd.R_elder' (by (with_reducible repeat (first | apply Kd.R_alloc | apply Kd.R_drewN | apply Kd.R_drew)); exact HO265.out) (Kd.R_base ho0) hb)
           have n3_ := Aside0.mk (Kd.R_lower (Kd.R_new' (Kd.R_new' (Kd.R_new' ho0 (Kd.R_lt (by (with_reducible repeat (first | apply Kd.R_alloc | apply Kd.R_drewN | apply Kd.R_drew)); exact HO258.out))) (Kd.R_lt (by (with_reducible repeat (first | apply Kd.R_alloc | apply Kd.R_drewN | apply Kd.R_drew)); exact HO261.out))) (Kd.R_lt (by (with_reducible repeat (first | apply Kd.R_alloc | apply Kd.R_drewN | apply Kd.R_drew)); exact HO265.out))) (below_size (by repeat (first | (with_reducible first | exact HB.out | apply below_alloc | apply pw_below_drewN | apply below_drew1 | refine below_set ?_ GE242.out) | exact HB.out))))
           have n4_ := Aside0.mk (blk_below (g := gb242) (o := .cells #[.slice A0_0 l0_0.length c0_0, .slice A0_1 l0_1.length c0_1, .int .i64 a0_2] 25 (0, 0)) (by (with_reducible repeat (first | refine blk_drewN ?_ _ | refine blk_drew ?_ | refine blk_alloc ?_ _)); exact BK242.out) hb)
           have n5_ := Aside0.mk (below_step (by repeat (first | (with_reducible first | exact HB.out | apply below_alloc | apply pw_below_drewN | apply below_drew1 | refine below_set ?_ GE242.out) | exact HB.out)) hb)
           clear HO258
           clear HO261
           clear HO265
           clear BK242
           clear HB
           have HO258 := n0_
           have HO261 := n1_
           have HO265 := n2_
           have HO268 := n3_
           have BK242 := n4_
           have HB := n5_
           clear n0_ n1_ n2_ n3_ n4_ n5_
           (try clear hb)
           (try clear hb2)
           (try clear hk)
           (try clear hi)
           (try clear ho0)
           obtain ⟨Ao80, co80, eo80⟩ := Kd.R_slice HO265.out
           (first | subst eo80 | (injection eo80 with f1_ f2_ f3_; have f4_ := f1_.symm; have f5_ := f3_.symm; clear f1_ f2_ f3_; subst f4_; subst f5_))
           obtain ⟨Ao81, co81, eo81⟩ := Kd.R_slice HO268.out
           (first | subst eo81 | (injection eo81 with f1_ f2_ f3_; have f4_ := f1_.symm; have f5_ := f3_.symm; clear f1_ f2_ f3_; subst f4_; subst f5_))
           refine hK.out _ _ ⟨(blk_cell BK242.out 0).trans rfl, (blk_cell BK242.out 1).trans rfl, (blk_cell BK242.out 2).trans rfl⟩ (fun hHeld => ?_)
           clear hK K
           refine norm_ (a' := ?_) ?_ ?_
           rotate_left
           ·show Act.put _ (some 104) _ = _
            simp only [Act.put, List.setIfInBounds_toArray, List.set_cons_zero, List.set_cons_succ, i64_w, i32_w]
            rfl
           refine one_ (i := 20) (N := some 105) #[true, true, true, true, true, true, true, true, true, true, true, true, true, true, true, true, true, true, true, true, true, false, false, false, false, false] rfl rfl (one_of HT_.out (by kernel_rfl)) (by decide) (fun K hK => ?_)
           refine goes_ Try.func15 (by kernel_rfl) rfl #[.slice Ao80 t263.length co80, .slice Ao81 t266.length co81] (by rfl) rfl rfl (by (try simp only [List.map_toArray, List.map_cons, List.map_nil]); first | done | rfl | (simp only [List.length_drop, List.length_take]; rfl)) ?_
           with_reducible refine (pacelinelaw08_same.calls k2 _ _ t263 _ _ t266 false _ ?side1 ?side2 ?side3 ?side4 A58.out).mono ?_
           (case side1 => repeat (first | exact (Kd.R_reads' HO265.out).2.2 | (with_reducible refine Kd.C_alloc ?_ _) | (with_reducible refine Kd.C_drewN ?_ _) | (with_reducible refine Kd.C_drew ?_)))
           (case side2 => exact (Kd.R_reads' HO265.out).2.1)
           (case side3 => repeat (first | exact (Kd.R_reads' HO268.out).2.2 | (with_reducible refine Kd.C_alloc ?_ _) | (with_reducible refine Kd.C_drewN ?_ _) | (with_reducible refine Kd.C_drew ?_)))
           (case side4 => exact (Kd.R_reads' HO268.out).2.1)
           rintro e w' ⟨rfl, ⟨nd, rfl⟩⟩
           refine ⟨_, rfl, ?_⟩
           refine hK.out _ _ ⟨(blk_cell BK242.out 0).trans rfl, (blk_cell BK242.out 1).trans rfl, (blk_cell BK242.out 2).trans rfl⟩ (fun hHeld => ?_)
           clear hK K
           refine norm_ (a' := ?_) ?_ ?_
           rotate_left
           ·show Act.put _ (some 105) _ = _
            simp only [Act.put, List.setIfInBounds_toArray, List.set_cons_zero, List.set_cons_succ, i64_w, i32_w]
            rfl
           refine pure_ (i := 21) (N := some 106) (v := ?_) (a' := ?_) #[true, true, true, true, true, true, true, true, true, true, true, true, true, true, true, true, true, true, true, true, true, true, false, false, false, false] rfl rfl (any_of HT_.out (by kernel_rfl)) (fun _ _ _ h => h) (Or.inl ⟨by rfl, ?_⟩) ?_ ?_
           rotate_left
           ·intro w'
            go_simp
            with_reducible rfl
           rotate_left
           ·simp only [Act.put, List.setIfInBounds_toArray, List.set_cons_zero, List.set_cons_succ, i64_w, i32_w]
            rfl
           refine pure_ (i := 22) (N := some 107) (v := ?_) (a' := ?_) #[true, true, true, true, true, true, true, true, true, true, true, true, true, true, true, true, true, true, true, true, true, true, true, false, false, false] rfl rfl (any_of HT_.out (by kernel_rfl)) (fun _ _ _ h => h) (Or.inl ⟨by rfl, ?_⟩) ?_ ?_
           rotate_left
           ·intro w'
            go_simp
            with_reducible rfl
           rotate_left
           ·simp only [Act.put, List.setIfInBounds_toArray, List.set_cons_zero, List.set_cons_succ, i64_w, i32_w]
            rfl
           refine pure_ (i := 23) (N := some 108) (v := undef) (a' := ?_) #[true, true, true, true, true, true, true, true, true, true, true, true, true, true, true, true, true, true, true, true, true, true, true, true, false, false] rfl rfl (any_of HT_.out (by kernel_rfl)) (fun _ _ _ h => h) (Or.inr ⟨by rfl, rfl⟩) ?_ ?_
           rotate_left
           ·simp only [Act.put, List.setIfInBounds_toArray, List.set_cons_zero, List.set_cons_succ, i64_w, i32_w]
            rfl
           refine pure_ (i := 24) (N := some 109) (v := ?_) (a' := ?_) #[true, true, true, true, true, true, true, true, true, true, true, true, true, true, true, true, true, true, true, true, true, true, true, true, true, false] rfl rfl (any_of HT_.out (by kernel_rfl)) (fun _ _ _ h => h) (Or.inl ⟨by rfl, ?_⟩) ?_ ?_
           rotate_left
           ·intro w'
            go_simp
            with_reducible rfl
           rotate_left
           ·simp only [Act.put, List.setIfInBounds_toArray, List.set_cons_zero, List.set_cons_succ, i64_w, i32_w]
            rfl
           refine pure_ (i := 25) (N := some 12) (v := ?_) (a' := ?_) #[true, true, true, true, true, true, true, true, true, true, true, true, true, true, true, true, true, true, true, true, true, true, true, true, true, true] rfl rfl (any_of HT_.out (by kernel_rfl)) (fun _ _ _ h => h) (Or.inl ⟨by rfl, ?_⟩) ?_ ?_
           rotate_left
           ·intro w'
            go_simp
            with_reducible rfl
           rotate_left
           ·simp only [Act.put, List.setIfInBounds_toArray, List.set_cons_zero, List.set_cons_succ, i64_w, i32_w]
            rfl
           refine done_ (done_of HT_.out (by kernel_rfl)) ?_
           try go_wp2
           go_ret
           exact ⟨by first | rfl | (simp [errW_none, errW_some] <;> rfl) | (simp [*, errW_none, errW_some] <;> rfl), by repeat (first | (with_reducible first | exact HB.out | apply below_alloc | apply pw_below_drewN | apply below_drew1 | refine below_set ?_ GE242.out) | exact HB.out)⟩
         ·replace c55 := Bool.eq_false_iff.mpr c55
          subst c55
          have H1 : (some false) = some r := by rw [if_neg (show ¬ (false = true) by decide)] at H; exact H
          clear H
          have H := H1
          clear H1
          obtain rfl := Option.some.inj H
          have hcz82_0 : wr.cell? ⟨gb242, 0, none⟩ = some (.slice A0_0 l0_0.length c0_0) := (blk_cell BK242.out 0).trans rfl
          have hcz82_1 : wr.cell? ⟨gb242, 1, none⟩ = some (.slice A0_1 l0_1.length c0_1) := (blk_cell BK242.out 1).trans rfl
          have hcz82_2 : wr.cell? ⟨gb242, 2, none⟩ = some (.int .i64 a0_2) := (blk_cell BK242.out 2).trans rfl
          have hfz82_0 := blk_frozen BK242.out 0
          have hfz82_1 := blk_frozen BK242.out 1
          have hfz82_2 := blk_frozen BK242.out 2
          try go_wp2
          have n0_ := Aside0.mk (blk_drew BK242.out)
          have n1_ := Aside0.mk (below_drew1 HB.out)
          clear BK242
          clear HB
          have BK242 := n0_
          have HB := n1_
          clear n0_ n1_
          refine start_ (n := 26) (S := fun w' => w'.cell? ⟨gb242, 0, none⟩ = some (.slice A0_0 l0_0.length c0_0) ∧ w'.cell? ⟨gb242, 1, none⟩ = some (.slice A0_1 l0_1.length c0_1) ∧ w'.cell? ⟨gb242, 2, none⟩ = some (.int .i64 a0_2)) (ds := []) #[false, false, false, false, false, false, false, false, false, false, false, false, false, false, false, false, false, false, false, false, false, false, false, false, false, false] (by kernel_rfl) rfl rfl ⟨(blk_cell BK242.out 0).trans rfl, (blk_cell BK242.out 1).trans rfl, (blk_cell BK242.out 2).trans rfl⟩ (fun hHeld => ?_); refine with_tabW pacelinelaw08_ConfigSpreads.tab19 pacelinelaw08_ConfigSpreads.bits19 (fun HT_ HW_ => ?_)
          generalize wr.drew = w83 at BK242 HB hHeld ⊢
          refine pure_ (i := 1) (N := some 86) (v := ?_) (a' := ?_) #[false, true, false, false, false, false, false, false, false, false, false, false, false, false, false, false, false, false, false, false, false, false, false, false, false, false] rfl rfl (any_of HT_.out (by kernel_rfl)) (fun _ _ _ h => h) (Or.inl ⟨by rfl, ?_⟩) ?_ ?_
          rotate_left
          ·intro w'
           go_simp
           with_reducible rfl
          rotate_left
          ·simp only [Act.put, List.setIfInBounds_toArray, List.set_cons_zero, List.set_cons_succ, i64_w, i32_w]
           rfl
          refine pure_ (i := 2) (N := some 87) (v := ?_) (a' := ?_) #[false, true, true, false, false, false, false, false, false, false, false, false, false, false, false, false, false, false, false, false, false, false, false, false, false, false] rfl rfl (any_of HT_.out (by kernel_rfl)) (fun _ _ _ h => h) (Or.inl ⟨by rfl, ?_⟩) ?_ ?_
          rotate_left
          ·intro w'
           go_simp
           with_reducible rfl
          rotate_left
          ·simp only [Act.put, List.setIfInBounds_toArray, List.set_cons_zero, List.set_cons_succ, i64_w, i32_w]
           rfl
          refine pure_ (i := 3) (N := some 88) (v := ?_) (a' := ?_) #[false, true, true, true, false, false, false, false, false, false, false, false, false, false, false, false, false, false, false, false, false, false, false, false, false, false] rfl rfl (any_of HT_.out (by kernel_rfl)) (fun _ _ _ h => h) (Or.inl ⟨by rfl, ?_⟩) ?_ ?_
          rotate_left
          ·intro w'
           go_simp
           with_reducible rfl
          rotate_left
          ·simp only [Act.put, List.setIfInBounds_toArray, List.set_cons_zero, List.set_cons_succ, i64_w, i32_w]
           rfl
          refine pure_ (i := 4) (N := some 89) (v := ?_) (a' := ?_) #[false, true, true, true, true, false, false, false, false, false, false, false, false, false, false, false, false, false, false, false, false, false, false, false, false, false] rfl rfl (any_of HT_.out (by kernel_rfl)) (fun _ _ _ h => h) (Or.inl ⟨by rfl, ?_⟩) ?_ ?_
          rotate_left
          ·intro w'
           go_simp
           with_reducible rfl
          rotate_left
          ·simp only [Act.put, List.setIfInBounds_toArray, List.set_cons_zero, List.set_cons_succ, i64_w, i32_w]
           rfl
          refine pure_ (i := 5) (N := some 90) (v := ?_) (a' := ?_) #[false, true, true, true, true, true, false, false, false, false, false, false, false, false, false, false, false, false, false, false, false, false, false, false, false, false] rfl rfl (any_of HT_.out (by kernel_rfl)) (fun _ _ _ h => h) (Or.inl ⟨by rfl, ?_⟩) ?_ ?_
          rotate_left
          ·intro w'
           go_simp
           with_reducible rfl
          rotate_left
          ·simp only [Act.put, List.setIfInBounds_toArray, List.set_cons_zero, List.set_cons_succ, i64_w, i32_w]
           rfl
          refine pure_ (i := 8) (N := some 93) (v := ?_) (a' := ?_) #[false, true, true, true, true, true, false, false, true, false, false, false, false, false, false, false, false, false, false, false, false, false, false, false, false, false] rfl rfl (any_of HT_.out (by kernel_rfl)) (fun _ _ _ h => h) (Or.inl ⟨by rfl, ?_⟩) ?_ ?_
          rotate_left
          ·intro w'
           go_simp
           with_reducible rfl
          rotate_left
          ·simp only [Act.put, List.setIfInBounds_toArray, List.set_cons_zero, List.set_cons_succ, i64_w, i32_w]
           rfl
          refine pure_ (i := 9) (N := some 94) (v := ?_) (a' := ?_) #[false, true, true, true, true, true, false, false, true, true, false, false, false, false, false, false, false, false, false, false, false, false, false, false, false, false] rfl rfl (any_of HT_.out (by kernel_rfl)) (fun _ _ _ h => h) (Or.inl ⟨by rfl, ?_⟩) ?_ ?_
          rotate_left
          ·intro w'
           go_simp
           with_reducible rfl
          rotate_left
          ·simp only [Act.put, List.setIfInBounds_toArray, List.set_cons_zero, List.set_cons_succ, i64_w, i32_w]
           rfl
          refine pure_ (i := 10) (N := some 95) (v := ?_) (a' := ?_) #[false, true, true, true, true, true, false, false, true, true, true, false, false, false, false, false, false, false, false, false, false, false, false, false, false, false] rfl rfl (any_of HT_.out (by kernel_rfl)) (fun _ _ _ h => h) (Or.inl ⟨by rfl, ?_⟩) ?_ ?_
          rotate_left
          ·intro w'
           go_simp
           with_reducible rfl
          rotate_left
          ·simp only [Act.put, List.setIfInBounds_toArray, List.set_cons_zero, List.set_cons_succ, i64_w, i32_w]
           rfl
          refine pure_ (i := 11) (N := some 96) (v := ?_) (a' := ?_) #[false, true, true, true, true, true, false, false, true, true, true, true, false, false, false, false, false, false, false, false, false, false, false, false, false, false] rfl rfl (any_of HT_.out (by kernel_rfl)) (fun _ _ _ h => h) (Or.inl ⟨by rfl, ?_⟩) ?_ ?_
          rotate_left
          ·intro w'
           go_simp
           with_reducible rfl
          rotate_left
          ·simp only [Act.put, List.setIfInBounds_toArray, List.set_cons_zero, List.set_cons_succ, i64_w, i32_w]
           rfl
          refine pure_ (i := 12) (N := some 97) (v := ?_) (a' := ?_) #[false, true, true, true, true, true, false, false, true, true, true, true, true, false, false, false, false, false, false, false, false, false, false, false, false, false] rfl rfl (any_of HT_.out (by kernel_rfl)) (fun _ _ _ h => h) (Or.inl ⟨by rfl, ?_⟩) ?_ ?_
          rotate_left
          ·intro w'
           go_simp
           with_reducible rfl
          rotate_left
          ·simp only [Act.put, List.setIfInBounds_toArray, List.set_cons_zero, List.set_cons_succ, i64_w, i32_w]
           rfl
          refine take_ (i := 0) (N := some 85) (v := ?_) (a' := ?_) #[true, true, true, true, true, true, false, false, true, true, true, true, true, false, false, false, false, false, false, false, false, false, false, false, false, false] rfl rfl (take_ofW HT_.out HW_.out (by kernel_rfl)) (fun _ _ _ h => h) (Or.inl ⟨by rfl, ?_⟩) hHeld ?_ ?_
          rotate_left
          ·rintro w' ⟨s0, s1, s2⟩
           go_simp
           with_reducible rfl
          rotate_left
          ·simp only [Act.put, List.setIfInBounds_toArray, List.set_cons_zero, List.set_cons_succ, i64_w, i32_w]
           rfl
          refine take_ (i := 7) (N := some 92) (v := ?_) (a' := ?_) #[true, true, true, true, true, true, false, true, true, true, true, true, true, false, false, false, false, false, false, false, false, false, false, false, false, false] rfl rfl (take_ofW HT_.out HW_.out (by kernel_rfl)) (fun _ _ _ h => h) (Or.inl ⟨by rfl, ?_⟩) hHeld ?_ ?_
          rotate_left
          ·rintro w' ⟨s0, s1, s2⟩
           go_simp
           with_reducible rfl
          rotate_left
          ·simp only [Act.put, List.setIfInBounds_toArray, List.set_cons_zero, List.set_cons_succ, i64_w, i32_w]
           rfl
          refine one_ (i := 6) (N := some 91) #[true, true, true, true, true, true, true, true, true, true, true, true, true, false, false, false, false, false, false, false, false, false, false, false, false, false] rfl rfl (one_of HT_.out (by kernel_rfl)) (by decide) (fun K hK => ?_)
          refine goes_ Try.func16 (by kernel_rfl) rfl #[.agg #[.slice A0_0 l0_0.length c0_0, .slice A0_1 l0_1.length c0_1, .int .i64 a0_2], .int .i64 (Int.tmod (wrap64 (a1)) (l0_1.length : Int)), .int .i64 a2, .int .i64 a3, .int .i64 a4, .slice A5 l5.length c5] (by rfl) rfl rfl (by (try simp only [List.map_toArray, List.map_cons, List.map_nil]); first | done | rfl | (simp only [List.length_drop, List.length_take]; rfl)) ?_
          with_reducible refine (config_Spread.calls k2 _ _ l0_0 _ _ l0_1 a0_2 (Int.tmod (wrap64 (a1)) (l0_1.length : Int)) a2 a3 a4 _ _ l5 t256 _ ?side1 ?side2 ?side3 ?side4 ?side5 ?side6 A52.out).mono ?_
          (case side1 => repeat (first | exact (Kd.C_below HR0_0.out HB.out) | (with_reducible refine Kd.C_alloc ?_ _) | (with_reducible refine Kd.C_drewN ?_ _) | (with_reducible refine Kd.C_drew ?_)))
          (case side2 => exact HC0_0.out)
          (case side3 => repeat (first | exact (Kd.C_below HR0_1.out HB.out) | (with_reducible refine Kd.C_alloc ?_ _) | (with_reducible refine Kd.C_drewN ?_ _) | (with_reducible refine Kd.C_drew ?_)))
          (case side4 => exact HC0_1.out)
          (case side5 => repeat (first | exact (Kd.C_below HR5.out HB.out) | (with_reducible refine Kd.C_alloc ?_ _) | (with_reducible refine Kd.C_drewN ?_ _) | (with_reducible refine Kd.C_drew ?_)))
          (case side6 => exact HC5.out)
          rintro e w84 ⟨v257, rfl, ho0, hb⟩
          refine ⟨_, rfl, ?_⟩
          have n0_ := Aside0.mk (Kd.R_lower ho0 (below_size (by repeat (first | (with_reducible first | exact HB.out | apply below_alloc | apply pw_below_drewN | apply below_drew1 | refine below_set ?_ GE242.out) | exact HB.out))))
          have n1_ := Aside0.mk (blk_below (g := gb242) (o := .cells #[.slice A0_0 l0_0.length c0_0, .slice A0_1 l0_1.length c0_1, .int .i64 a0_2] 25 (0, 0)) (by (with_reducible repeat (first | refine blk_drewN ?_ _ | refine blk_drew ?_ | refine blk_alloc ?_ _)); exact BK242.out) hb)
          have n2_ := Aside0.mk (below_step (by repeat (first | (with_reducible first | exact HB.out | apply below_alloc | apply pw_below_drewN | apply below_drew1 | refine below_set ?_ GE242.out) | exact HB.out)) hb)
          clear BK242
          clear HB
          have HO258 := n0_
          have BK242 := n1_
          have HB := n2_
          clear n0_ n1_ n2_
          (try clear hb)
          (try clear hb2)
          (try clear hk)
          (try clear hi)
          (try clear ho0)
          refine hK.out _ _ ⟨(blk_cell BK242.out 0).trans rfl, (blk_cell BK242.out 1).trans rfl, (blk_cell BK242.out 2).trans rfl⟩ (fun hHeld => ?_)
          clear hK K
          refine norm_ (a' := ?_) ?_ ?_
          rotate_left
          ·show Act.put _ (some 91) _ = _
           simp only [Act.put, List.setIfInBounds_toArray, List.set_cons_zero, List.set_cons_succ, i64_w, i32_w]
           rfl
          refine one_ (i := 13) (N := some 98) #[true, true, true, true, true, true, true, true, true, true, true, true, true, true, false, false, false, false, false, false, false, false, false, false, false, false] rfl rfl (one_of HT_.out (by kernel_rfl)) (by decide) (fun K hK => ?_)
          refine goes_ Try.func17 (by kernel_rfl) rfl #[.agg #[.slice A0_0 l0_0.length c0_0, .slice A0_1 l0_1.length c0_1, .int .i64 a0_2], .int .i64 (Int.tmod (wrap64 (a1)) (l0_1.length : Int)), .int .i64 a2, .int .i64 a3, .int .i64 a4, .slice A5 l5.length c5] (by rfl) rfl rfl (by (try simp only [List.map_toArray, List.map_cons, List.map_nil]); first | done | rfl | (simp only [List.length_drop, List.length_take]; rfl)) ?_
          with_reducible refine (pacelineref08_Spread.calls k2 _ _ l0_0 _ _ l0_1 a0_2 (Int.tmod (wrap64 (a1)) (l0_1.length : Int)) a2 a3 a4 _ _ l5 t259 _ ?side1 ?side2 ?side3 ?side4 ?side5 ?side6 A53.out).mono ?_
          (case side1 => repeat (first | exact (Kd.C_below HR0_0.out HB.out) | (with_reducible refine Kd.C_alloc ?_ _) | (with_reducible refine Kd.C_drewN ?_ _) | (with_reducible refine Kd.C_drew ?_)))
          (case side2 => exact HC0_0.out)
          (case side3 => repeat (first | exact (Kd.C_below HR0_1.out HB.out) | (with_reducible refine Kd.C_alloc ?_ _) | (with_reducible refine Kd.C_drewN ?_ _) | (with_reducible refine Kd.C_drew ?_)))
          (case side4 => exact HC0_1.out)
          (case side5 => repeat (first | exact (Kd.C_below HR5.out HB.out) | (with_reducible refine Kd.C_alloc ?_ _) | (with_reducible refine Kd.C_drewN ?_ _) | (with_reducible refine Kd.C_drew ?_)))
          (case side6 => exact HC5.out)
          rintro e w85 ⟨v260, rfl, ho0, hb⟩
          refine ⟨_, rfl, ?_⟩
          have n0_ := Aside0.mk (Kd.R_elder' (by (with_reducible repeat (first | apply Kd.R_alloc | apply Kd.R_drewN | apply Kd.R_drew)); exact HO258.out) (Kd.R_base ho0) hb)
          have n1_ := Aside0.mk (Kd.R_lower (Kd.R_new' ho0 (Kd.R_lt (by (with_reducible repeat (first | apply Kd.R_alloc | apply Kd.R_drewN | apply Kd.R_drew)); exact HO258.out))) (below_size (by repeat (first | (with_reducible first | exact HB.out | apply below_alloc | apply pw_below_drewN | apply below_drew1 | refine below_set ?_ GE242.out) | exact HB.out))))
          have n2_ := Aside0.mk (blk_below (g := gb242) (o := .cells #[.slice A0_0 l0_0.length c0_0, .slice A0_1 l0_1.length c0_1, .int .i64 a0_2] 25 (0, 0)) (by (with_reducible repeat (first | refine blk_drewN ?_ _ | refine blk_drew ?_ | refine blk_alloc ?_ _)); exact BK242.out) hb)
          have n3_ := Aside0.mk (below_step (by repeat (first | (with_reducible first | exact HB.out | apply below_alloc | apply pw_below_drewN | apply below_drew1 | refine below_set ?_ GE242.out) | exact HB.out)) hb)
          clear HO258
          clear BK242
          clear HB
          have HO258 := n0_
          have HO261 := n1_
          have BK242 := n2_
          have HB := n3_
          clear n0_ n1_ n2_ n3_
          (try clear hb)
          (try clear hb2)
          (try clear hk)
          (try clear hi)
          (try clear ho0)
          obtain ⟨Ao86, co86, eo86⟩ := Kd.R_slice HO258.out
          (first | subst eo86 | (injection eo86 with f1_ f2_ f3_; have f4_ := f1_.symm; have f5_ := f3_.symm; clear f1_ f2_ f3_; subst f4_; subst f5_))
          obtain ⟨Ao87, co87, eo87⟩ := Kd.R_slice HO261.out
          (first | subst eo87 | (injection eo87 with f1_ f2_ f3_; have f4_ := f1_.symm; have f5_ := f3_.symm; clear f1_ f2_ f3_; subst f4_; subst f5_))
          refine hK.out _ _ ⟨(blk_cell BK242.out 0).trans rfl, (blk_cell BK242.out 1).trans rfl, (blk_cell BK242.out 2).trans rfl⟩ (fun hHeld => ?_)
          clear hK K
          refine norm_ (a' := ?_) ?_ ?_
          rotate_left
          ·show Act.put _ (some 98) _ = _
           simp only [Act.put, List.setIfInBounds_toArray, List.set_cons_zero, List.set_cons_succ, i64_w, i32_w]
           rfl
          refine one_ (i := 14) (N := some 99) #[true, true, true, true, true, true, true, true, true, true, true, true, true, true, true, false, false, false, false, false, false, false, false, false, false, false] rfl rfl (one_of HT_.out (by kernel_rfl)) (by decide) (fun K hK => ?_)
          refine goes_ Try.func15 (by kernel_rfl) rfl #[.slice Ao86 t256.length co86, .slice Ao87 t259.length co87] (by rfl) rfl rfl (by (try simp only [List.map_toArray, List.map_cons, List.map_nil]); first | done | rfl | (simp only [List.length_drop, List.length_take]; rfl)) ?_
          with_reducible refine (pacelinelaw08_same.calls k2 _ _ t256 _ _ t259 false _ ?side1 ?side2 ?side3 ?side4 A54.out).mono ?_
          (case side1 => repeat (first | exact (Kd.R_reads' HO258.out).2.2 | (with_reducible refine Kd.C_alloc ?_ _) | (with_reducible refine Kd.C_drewN ?_ _) | (with_reducible refine Kd.C_drew ?_)))
          (case side2 => exact (Kd.R_reads' HO258.out).2.1)
          (case side3 => repeat (first | exact (Kd.R_reads' HO261.out).2.2 | (with_reducible refine Kd.C_alloc ?_ _) | (with_reducible refine Kd.C_drewN ?_ _) | (with_reducible refine Kd.C_drew ?_)))
          (case side4 => exact (Kd.R_reads' HO261.out).2.1)
          rintro e w' ⟨rfl, ⟨nd, rfl⟩⟩
          refine ⟨_, rfl, ?_⟩
          refine hK.out _ _ ⟨(blk_cell BK242.out 0).trans rfl, (blk_cell BK242.out 1).trans rfl, (blk_cell BK242.out 2).trans rfl⟩ (fun hHeld => ?_)
          clear hK K
          refine norm_ (a' := ?_) ?_ ?_
          rotate_left
          ·show Act.put _ (some 99) _ = _
           simp only [Act.put, List.setIfInBounds_toArray, List.set_cons_zero, List.set_cons_succ, i64_w, i32_w]
           rfl
          refine pure_ (i := 15) (N := some 100) (v := ?_) (a' := ?_) #[true, true, true, true, true, true, true, true, true, true, true, true, true, true, true, true, false, false, false, false, false, false, false, false, false, false] rfl rfl (any_of HT_.out (by kernel_rfl)) (fun _ _ _ h => h) (Or.inl ⟨by rfl, ?_⟩) ?_ ?_
          rotate_left
          ·intro w'
           go_simp
           with_reducible rfl
          rotate_left
          ·simp only [Act.put, List.setIfInBounds_toArray, List.set_cons_zero, List.set_cons_succ, i64_w, i32_w]
           rfl
          refine pure_ (i := 16) (N := some 101) (v := undef) (a' := ?_) #[true, true, true, true, true, true, true, true, true, true, true, true, true, true, true, true, true, false, false, false, false, false, false, false, false, false] rfl rfl (any_of HT_.out (by kernel_rfl)) (fun _ _ _ h => h) (Or.inr ⟨by rfl, rfl⟩) ?_ ?_
          rotate_left
          ·simp only [Act.put, List.setIfInBounds_toArray, List.set_cons_zero, List.set_cons_succ, i64_w, i32_w]
           rfl
          refine pure_ (i := 17) (N := some 102) (v := undef) (a' := ?_) #[true, true, true, true, true, true, true, true, true, true, true, true, true, true, true, true, true, true, false, false, false, false, false, false, false, false] rfl rfl (any_of HT_.out (by kernel_rfl)) (fun _ _ _ h => h) (Or.inr ⟨by rfl, rfl⟩) ?_ ?_
          rotate_left
          ·simp only [Act.put, List.setIfInBounds_toArray, List.set_cons_zero, List.set_cons_succ, i64_w, i32_w]
           rfl
          refine pure_ (i := 18) (N := some 103) (v := undef) (a' := ?_) #[true, true, true, true, true, true, true, true, true, true, true, true, true, true, true, true, true, true, true, false, false, false, false, false, false, false] rfl rfl (any_of HT_.out (by kernel_rfl)) (fun _ _ _ h => h) (Or.inr ⟨by rfl, rfl⟩) ?_ ?_
          rotate_left
          ·simp only [Act.put, List.setIfInBounds_toArray, List.set_cons_zero, List.set_cons_succ, i64_w, i32_w]
           rfl
          refine pure_ (i := 19) (N := some 104) (v := undef) (a' := ?_) #[true, true, true, true, true, true, true, true, true, true, true, true, true, true, true, true, true, true, true, true, false, false, false, false, false, false] rfl rfl (any_of HT_.out (by kernel_rfl)) (fun _ _ _ h => h) (Or.inr ⟨by rfl, rfl⟩) ?_ ?_
          rotate_left
          ·simp only [Act.put, List.setIfInBounds_toArray, List.set_cons_zero, List.set_cons_succ, i64_w, i32_w]
           rfl
          refine pure_ (i := 20) (N := some 105) (v := undef) (a' := ?_) #[true, true, true, true, true, true, true, true, true, true, true, true, true, true, true, true, true, true, true, true, true, false, false, false, false, false] rfl rfl (any_of HT_.out (by kernel_rfl)) (fun _ _ _ h => h) (Or.inr ⟨by rfl, rfl⟩) ?_ ?_
          rotate_left
          ·simp only [Act.put, List.setIfInBounds_toArray, List.set_cons_zero, List.set_cons_succ, i64_w, i32_w]
           rfl
          refine pure_ (i := 21) (N := some 106) (v := ?_) (a' := ?_) #[true, true, true, true, true, true, true, true, true, true, true, true, true, true, true, true, true, true, true, true, true, true, false, false, false, false] rfl rfl (any_of HT_.out (by kernel_rfl)) (fun _ _ _ h => h) (Or.inl ⟨by rfl, ?_⟩) ?_ ?_
          rotate_left
          ·intro w'
           go_simp
           with_reducible rfl
          rotate_left
          ·simp only [Act.put, List.setIfInBounds_toArray, List.set_cons_zero, List.set_cons_succ, i64_w, i32_w]
           rfl
          refine pure_ (i := 22) (N := some 107) (v := ?_) (a' := ?_) #[true, true, true, true, true, true, true, true, true, true, true, true, true, true, true, true, true, true, true, true, true, true, true, false, false, false] rfl rfl (any_of HT_.out (by kernel_rfl)) (fun _ _ _ h => h) (Or.inl ⟨by rfl, ?_⟩) ?_ ?_
          rotate_left
          ·intro w'
           go_simp
           with_reducible rfl
          rotate_left
          ·simp only [Act.put, List.setIfInBounds_toArray, List.set_cons_zero, List.set_cons_succ, i64_w, i32_w]
           rfl
          refine pure_ (i := 23) (N := some 108) (v := undef) (a' := ?_) #[true, true, true, true, true, true, true, true, true, true, true, true, true, true, true, true, true, true, true, true, true, true, true, true, false, false] rfl rfl (any_of HT_.out (by kernel_rfl)) (fun _ _ _ h => h) (Or.inr ⟨by rfl, rfl⟩) ?_ ?_
          rotate_left
          ·simp only [Act.put, List.setIfInBounds_toArray, List.set_cons_zero, List.set_cons_succ, i64_w, i32_w]
           rfl
          refine pure_ (i := 24) (N := some 109) (v := ?_) (a' := ?_) #[true, true, true, true, true, true, true, true, true, true, true, true, true, true, true, true, true, true, true, true, true, true, true, true, true, false] rfl rfl (any_of HT_.out (by kernel_rfl)) (fun _ _ _ h => h) (Or.inl ⟨by rfl, ?_⟩) ?_ ?_
          rotate_left
          ·intro w'
           go_simp
           with_reducible rfl
          rotate_left
          ·simp only [Act.put, List.setIfInBounds_toArray, List.set_cons_zero, List.set_cons_succ, i64_w, i32_w]
           rfl
          refine pure_ (i := 25) (N := some 12) (v := ?_) (a' := ?_) #[true, true, true, true, true, true, true, true, true, true, true, true, true, true, true, true, true, true, true, true, true, true, true, true, true, true] rfl rfl (any_of HT_.out (by kernel_rfl)) (fun _ _ _ h => h) (Or.inl ⟨by rfl, ?_⟩) ?_ ?_
          rotate_left
          ·intro w'
           go_simp
           with_reducible rfl
          rotate_left
          ·simp only [Act.put, List.setIfInBounds_toArray, List.set_cons_zero, List.set_cons_succ, i64_w, i32_w]
           rfl
          refine done_ (done_of HT_.out (by kernel_rfl)) ?_
          try go_wp2
          go_ret
          exact ⟨by first | rfl | (simp [errW_none, errW_some] <;> rfl) | (simp [*, errW_none, errW_some] <;> rfl), by repeat (first | (with_reducible first | exact HB.out | apply below_alloc | apply pw_below_drewN | apply below_drew1 | refine below_set ?_ GE242.out) | exact HB.out)⟩
    ·rw [if_neg c25] at H
     have c25b0 : (t246 == 0) = false := beq_eq_false_iff_ne.mpr c25
     have c25b1 : (t246 != 0) = true := bne_iff_ne.mpr c25
     replace H := Option.bind_eq_some_iff.mp H
     obtain ⟨t247, A880, H⟩ := H
     replace H : (some t247) = some r := H
     have A88 := Aside0.mk A880
     clear A880
     obtain rfl := Option.some.inj H
     have hcz89_0 : wc.cell? ⟨gb242, 0, none⟩ = some (.slice A0_0 l0_0.length c0_0) := (blk_cell BK242.out 0).trans rfl
     have hcz89_1 : wc.cell? ⟨gb242, 1, none⟩ = some (.slice A0_1 l0_1.length c0_1) := (blk_cell BK242.out 1).trans rfl
     have hcz89_2 : wc.cell? ⟨gb242, 2, none⟩ = some (.int .i64 a0_2) := (blk_cell BK242.out 2).trans rfl
     have hfz89_0 := blk_frozen BK242.out 0
     have hfz89_1 := blk_frozen BK242.out 1
     have hfz89_2 := blk_frozen BK242.out 2
     go_wp2_with (first | ((with_reducible refine gate_callee (f := 11) rfl ?_); refine goesL_ (some 38) rfl rfl Try.func11 (by kernel_rfl) rfl #[.agg #[.slice A0_0 l0_0.length c0_0, .slice A0_1 l0_1.length c0_1, .int .i64 a0_2]] rfl (by (try simp only [List.map_toArray, List.map_cons, List.map_nil]); first | done | rfl | (simp only [List.length_drop, List.length_take]; rfl)) ?_; (with_reducible refine (pacelineref08_Check.calls kj6 _ _ l0_0 _ _ l0_1 a0_2 t245 t246 _ ?side1 ?side2 ?side3 ?side4 A24.out).mono ?_); (case side1 => repeat (first | exact (Kd.C_below HR0_0.out HB.out) | (with_reducible refine Kd.C_alloc ?_ _) | (with_reducible refine Kd.C_drewN ?_ _) | (with_reducible refine Kd.C_drew ?_))); (case side2 => exact HC0_0.out); (case side3 => repeat (first | exact (Kd.C_below HR0_1.out HB.out) | (with_reducible refine Kd.C_alloc ?_ _) | (with_reducible refine Kd.C_drewN ?_ _) | (with_reducible refine Kd.C_drew ?_))); (case side4 => exact HC0_1.out); rintro e w90 ⟨rfl, hb⟩; refine ⟨_, rfl, ?_⟩; have n0_ := Aside0.mk (blk_below (g := gb242) (o := .cells #[.slice A0_0 l0_0.length c0_0, .slice A0_1 l0_1.length c0_1, .int .i64 a0_2] 25 (0, 0)) (by (with_reducible repeat (first | refine blk_drewN ?_ _ | refine blk_drew ?_ | refine blk_alloc ?_ _)); exact BK242.out) hb); have n1_ := Aside0.mk (below_step (by repeat (first | (with_reducible first | exact HB.out | apply below_alloc | apply pw_below_drewN | apply below_drew1 | refine below_set ?_ GE242.out) | exact HB.out)) hb); clear BK242; clear HB; have BK242 := n0_; have HB := n1_; clear n0_ n1_; (try clear hb); (try clear hb2); (try clear hk); (try clear hi)) | ((with_reducible refine gate_callee (f := 12) rfl ?_); refine goesL_ (some 43) rfl rfl Try.func12 (by kernel_rfl) rfl #[] rfl (by (try simp only [List.map_toArray, List.map_cons, List.map_nil]); first | done | rfl | (simp only [List.length_drop, List.length_take]; rfl)) ?_; (with_reducible refine (pacelinelaw08_shown.calls  t247 _ A88.out).mono ?_); rintro e w91 ⟨rfl, hb⟩; refine ⟨_, rfl, ?_⟩; have n0_ := Aside0.mk (blk_below (g := gb242) (o := .cells #[.slice A0_0 l0_0.length c0_0, .slice A0_1 l0_1.length c0_1, .int .i64 a0_2] 25 (0, 0)) (by (with_reducible repeat (first | refine blk_drewN ?_ _ | refine blk_drew ?_ | refine blk_alloc ?_ _)); exact BK242.out) hb); have n1_ := Aside0.mk (below_step (by repeat (first | (with_reducible first | exact HB.out | apply below_alloc | apply pw_below_drewN | apply below_drew1 | refine below_set ?_ GE242.out) | exact HB.out)) hb); clear BK242; clear HB; have BK242 := n0_; have HB := n1_; clear n0_ n1_; (try clear hb); (try clear hb2); (try clear hk); (try clear hi)))
     go_ret
     exact ⟨by first | rfl | (simp [errW_none, errW_some] <;> rfl) | (simp [*, errW_none, errW_some] <;> rfl), by repeat (first | (with_reducible first | exact HB.out | apply below_alloc | apply pw_below_drewN | apply below_drew1 | refine below_set ?_ GE242.out) | exact HB.out)⟩

/-- THE ONE PURE STATEMENT of pacelinelaw08_ConfigSpreads. -/
def pacelinelaw08_ConfigSpreads.Pure : Prop := ∀ (l0_0 : List Int) (l0_1 : List (S42)) (a0_2 : Int) (a1 : Int) (a2 : Int) (a3 : Int) (a4 : Int) (l5 : List (S55)), OkAll (fun n_ => (Lit.int .i64 n_).wf = true) l0_0 → OkAll (ok42) l0_1 → (Lit.int .i64 a0_2).wf = true → (Lit.int .u8 a1).wf = true → (Lit.int .i64 a2).wf = true → (Lit.int .i64 a3).wf = true → (Lit.int .i64 a4).wf = true → OkAll (ok55) l5 → ∃ k, pacelinelaw08_ConfigSpreads.f k l0_0 l0_1 a0_2 a1 a2 a3 a4 l5 = some true

end Go.Proofs.Ytdlagficilbbbaa.PConfigSpreads
