-- Written by gp.py (this project's driver over the kit's print) out of the translation and wip/given; Lean checks it.
import Derived.Test.YtdlagficilbbbaaPConfigKindsx0
namespace Go.Proofs.Ytdlagficilbbbaa.PConfigKinds
open Go.RowKit Go.Proofs.YtdlagficilbbbaaR Go.Proofs.YtdlagficilbbbaaW.PrintWords Go.Proofs.YtdlagficilbbbaaW.PrintLast Go.Proofs.YtdlagficilbbbaaW.PrintMore
attribute [local go_sem] max2_int min2_int max_two min_two max_three min_three max_four min_four   -- for this text's walks alone
set_option linter.unusedVariables false
set_option linter.unusedSimpArgs false

/-! ### pacelinelaw08_heavy: function 9 -/
mutual
def pacelinelaw08_heavy.j0 : Nat → Bool → List Int → List (S42) → Int → Option (Bool)
 | 0, _, _, _, _ => none
 | k + 1, x15, x102000, x102001, x102002 => if x15 = true then (some true) else (pacelinelaw08_heavy.l0 k 0 x102000 x102001 x102002)
def pacelinelaw08_heavy.l0 : Nat → Int → List Int → List (S42) → Int → Option (Bool)
 | 0, _, _, _, _ => none
 | k + 1, x3, x102000, x102001, x102002 => if x3 < (x102001.length : Int) then (if 0 ≤ x3 then (if (((rd_T42 x102001 x3).f3).length : Int) > 60 then (pacelinelaw08_heavy.j2 k x3 true x102000 x102001 x102002 ((rd_T42 x102001 x3).f0) ((rd_T42 x102001 x3).f1) ((rd_T42 x102001 x3).f2) ((rd_T42 x102001 x3).f3) ((rd_T42 x102001 x3).f4) ((rd_T42 x102001 x3).f5) ((rd_T42 x102001 x3).f6)) else (if (((rd_T42 x102001 x3).f4).length : Int) > 50 then (pacelinelaw08_heavy.j2 k x3 true x102000 x102001 x102002 ((rd_T42 x102001 x3).f0) ((rd_T42 x102001 x3).f1) ((rd_T42 x102001 x3).f2) ((rd_T42 x102001 x3).f3) ((rd_T42 x102001 x3).f4) ((rd_T42 x102001 x3).f5) ((rd_T42 x102001 x3).f6)) else (if (((rd_T42 x102001 x3).f5).length : Int) > 50 then (pacelinelaw08_heavy.j2 k x3 true x102000 x102001 x102002 ((rd_T42 x102001 x3).f0) ((rd_T42 x102001 x3).f1) ((rd_T42 x102001 x3).f2) ((rd_T42 x102001 x3).f3) ((rd_T42 x102001 x3).f4) ((rd_T42 x102001 x3).f5) ((rd_T42 x102001 x3).f6)) else (pacelinelaw08_heavy.j2 k x3 (decide ((((rd_T42 x102001 x3).f6).length : Int) > 20)) x102000 x102001 x102002 ((rd_T42 x102001 x3).f0) ((rd_T42 x102001 x3).f1) ((rd_T42 x102001 x3).f2) ((rd_T42 x102001 x3).f3) ((rd_T42 x102001 x3).f4) ((rd_T42 x102001 x3).f5) ((rd_T42 x102001 x3).f6))))) else (none)) else (some false)
def pacelinelaw08_heavy.j2 : Nat → Int → Bool → List Int → List (S42) → Int → Int → Int → Int → List (S44) → List Int → List Int → List (S55) → Option (Bool)
 | 0, _, _, _, _, _, _, _, _, _, _, _, _ => none
 | k + 1, x3, x49, x102000, x102001, x102002, x104000, x104001, x104002, x104003, x104004, x104005, x104006 => if x49 = true then (some true) else (pacelinelaw08_heavy.l1 k x3 0 x102000 x102001 x102002 x104000 x104001 x104002 x104003 x104004 x104005 x104006)
def pacelinelaw08_heavy.l1 : Nat → Int → Int → List Int → List (S42) → Int → Int → Int → Int → List (S44) → List Int → List Int → List (S55) → Option (Bool)
 | 0, _, _, _, _, _, _, _, _, _, _, _, _ => none
 | k + 1, x3, x5, x102000, x102001, x102002, x104000, x104001, x104002, x104003, x104004, x104005, x104006 => if x5 < (x104003.length : Int) then (if 0 ≤ x5 then (if (((rd_T44 x104003 x5).f3).length : Int) > 20 then (some true) else (pacelinelaw08_heavy.l1 k x3 (wrap64 (x5 + 1)) x102000 x102001 x102002 x104000 x104001 x104002 x104003 x104004 x104005 x104006)) else (none)) else (pacelinelaw08_heavy.l0 k (wrap64 (x3 + 1)) x102000 x102001 x102002)
end
def pacelinelaw08_heavy.f (k : Nat) (l0_0 : List Int) (l0_1 : List (S42)) (a0_2 : Int) : Option (Bool) := if (l0_0.length : Int) > 50 then (pacelinelaw08_heavy.j0 k true l0_0 l0_1 a0_2) else (pacelinelaw08_heavy.j0 k (decide ((l0_1.length : Int) > 20)) l0_0 l0_1 a0_2)
theorem pacelinelaw08_heavy.mono_l : ∀ k, (∀ y0 y1 y2 y3, LeO (pacelinelaw08_heavy.j0 k y0 y1 y2 y3) (pacelinelaw08_heavy.j0 (k + 1) y0 y1 y2 y3)) ∧ (∀ y0 y1 y2 y3, LeO (pacelinelaw08_heavy.l0 k y0 y1 y2 y3) (pacelinelaw08_heavy.l0 (k + 1) y0 y1 y2 y3)) ∧ (∀ y0 y1 y2 y3 y4 y5 y6 y7 y8 y9 y10 y11, LeO (pacelinelaw08_heavy.j2 k y0 y1 y2 y3 y4 y5 y6 y7 y8 y9 y10 y11) (pacelinelaw08_heavy.j2 (k + 1) y0 y1 y2 y3 y4 y5 y6 y7 y8 y9 y10 y11)) ∧ (∀ y0 y1 y2 y3 y4 y5 y6 y7 y8 y9 y10 y11, LeO (pacelinelaw08_heavy.l1 k y0 y1 y2 y3 y4 y5 y6 y7 y8 y9 y10 y11) (pacelinelaw08_heavy.l1 (k + 1) y0 y1 y2 y3 y4 y5 y6 y7 y8 y9 y10 y11))
 | 0 => ⟨fun _ _ _ _ r h => by simp [pacelinelaw08_heavy.j0] at h, fun _ _ _ _ r h => by simp [pacelinelaw08_heavy.l0] at h, fun _ _ _ _ _ _ _ _ _ _ _ _ r h => by simp [pacelinelaw08_heavy.j2] at h, fun _ _ _ _ _ _ _ _ _ _ _ _ r h => by simp [pacelinelaw08_heavy.l1] at h⟩
 | k + 1 => by
  obtain ⟨ih0, ih1, ih2, ih3⟩ := pacelinelaw08_heavy.mono_l k
  refine ⟨?_, ?_, ?_, ?_⟩
  ·intro y0 y1 y2 y3
   unfold pacelinelaw08_heavy.j0
   repeat' first
   | (with_reducible exact ih0 _ _ _ _)
   | (with_reducible exact ih1 _ _ _ _)
   | (with_reducible exact ih2 _ _ _ _ _ _ _ _ _ _ _ _)
   | (with_reducible exact ih3 _ _ _ _ _ _ _ _ _ _ _ _)
   | (with_reducible exact LeO.refl _)
   | (with_reducible exact LeO.none _)
   | (with_reducible refine LeO.ite ?_ ?_)
   | (with_reducible refine LeO.bind ?_ (fun _ => ?_))
   | exact ih0 _ _ _ _
   | exact ih1 _ _ _ _
   | exact ih2 _ _ _ _ _ _ _ _ _ _ _ _
   | exact ih3 _ _ _ _ _ _ _ _ _ _ _ _
   | exact LeO.none _
   | refine LeO.ite ?_ ?_
   | refine LeO.bind ?_ (fun _ => ?_)
  ·intro y0 y1 y2 y3
   unfold pacelinelaw08_heavy.l0
   repeat' first
   | (with_reducible exact ih0 _ _ _ _)
   | (with_reducible exact ih1 _ _ _ _)
   | (with_reducible exact ih2 _ _ _ _ _ _ _ _ _ _ _ _)
   | (with_reducible exact ih3 _ _ _ _ _ _ _ _ _ _ _ _)
   | (with_reducible exact LeO.refl _)
   | (with_reducible exact LeO.none _)
   | (with_reducible refine LeO.ite ?_ ?_)
   | (with_reducible refine LeO.bind ?_ (fun _ => ?_))
   | exact ih0 _ _ _ _
   | exact ih1 _ _ _ _
   | exact ih2 _ _ _ _ _ _ _ _ _ _ _ _
   | exact ih3 _ _ _ _ _ _ _ _ _ _ _ _
   | exact LeO.none _
   | refine LeO.ite ?_ ?_
   | refine LeO.bind ?_ (fun _ => ?_)
  ·intro y0 y1 y2 y3 y4 y5 y6 y7 y8 y9 y10 y11
   unfold pacelinelaw08_heavy.j2
   repeat' first
   | (with_reducible exact ih0 _ _ _ _)
   | (with_reducible exact ih1 _ _ _ _)
   | (with_reducible exact ih2 _ _ _ _ _ _ _ _ _ _ _ _)
   | (with_reducible exact ih3 _ _ _ _ _ _ _ _ _ _ _ _)
   | (with_reducible exact LeO.refl _)
   | (with_reducible exact LeO.none _)
   | (with_reducible refine LeO.ite ?_ ?_)
   | (with_reducible refine LeO.bind ?_ (fun _ => ?_))
   | exact ih0 _ _ _ _
   | exact ih1 _ _ _ _
   | exact ih2 _ _ _ _ _ _ _ _ _ _ _ _
   | exact ih3 _ _ _ _ _ _ _ _ _ _ _ _
   | exact LeO.none _
   | refine LeO.ite ?_ ?_
   | refine LeO.bind ?_ (fun _ => ?_)
  ·intro y0 y1 y2 y3 y4 y5 y6 y7 y8 y9 y10 y11
   unfold pacelinelaw08_heavy.l1
   repeat' first
   | (with_reducible exact ih0 _ _ _ _)
   | (with_reducible exact ih1 _ _ _ _)
   | (with_reducible exact ih2 _ _ _ _ _ _ _ _ _ _ _ _)
   | (with_reducible exact ih3 _ _ _ _ _ _ _ _ _ _ _ _)
   | (with_reducible exact LeO.refl _)
   | (with_reducible exact LeO.none _)
   | (with_reducible refine LeO.ite ?_ ?_)
   | (with_reducible refine LeO.bind ?_ (fun _ => ?_))
   | exact ih0 _ _ _ _
   | exact ih1 _ _ _ _
   | exact ih2 _ _ _ _ _ _ _ _ _ _ _ _
   | exact ih3 _ _ _ _ _ _ _ _ _ _ _ _
   | exact LeO.none _
   | refine LeO.ite ?_ ?_
   | refine LeO.bind ?_ (fun _ => ?_)
theorem pacelinelaw08_heavy.mono : ∀ a0 a1 a2 k, LeO (pacelinelaw08_heavy.f k a0 a1 a2) (pacelinelaw08_heavy.f (k + 1) a0 a1 a2) := by
 intro a0 a1 a2 k
 obtain ⟨ih0, ih1, ih2, ih3⟩ := pacelinelaw08_heavy.mono_l k
 unfold pacelinelaw08_heavy.f
 repeat' first
   | (with_reducible exact ih0 _ _ _ _)
   | (with_reducible exact ih1 _ _ _ _)
   | (with_reducible exact ih2 _ _ _ _ _ _ _ _ _ _ _ _)
   | (with_reducible exact ih3 _ _ _ _ _ _ _ _ _ _ _ _)
   | (with_reducible exact LeO.refl _)
   | (with_reducible exact LeO.none _)
   | (with_reducible refine LeO.ite ?_ ?_)
   | (with_reducible refine LeO.bind ?_ (fun _ => ?_))
   | exact ih0 _ _ _ _
   | exact ih1 _ _ _ _
   | exact ih2 _ _ _ _ _ _ _ _ _ _ _ _
   | exact ih3 _ _ _ _ _ _ _ _ _ _ _ _
   | exact LeO.none _
   | refine LeO.ite ?_ ?_
   | refine LeO.bind ?_ (fun _ => ?_)
set_option maxHeartbeats 8000000 in
set_option maxRecDepth 100000 in
theorem pacelinelaw08_heavy.calls (k : Nat) (A0_0 : Option Addr) (c0_0 : Nat) (l0_0 : List Int) (A0_1 : Option Addr) (c0_1 : Nat) (l0_1 : List (S42)) (a0_2 : Int) (r : Bool) (w : World) (hr0_0 : Kd.C (Kd.int .i64) w A0_0 l0_0.length l0_0) (hc0_0 : l0_0.length ≤ c0_0) (hr0_1 : Kd.C k42 w A0_1 l0_1.length l0_1) (hc0_1 : l0_1.length ≤ c0_1) (h : pacelinelaw08_heavy.f k l0_0 l0_1 a0_2 = some r) :
  Calls Try.prog 9 #[.agg #[.slice A0_0 l0_0.length c0_0, .slice A0_1 l0_1.length c0_1, .int .i64 a0_2]] w fun e w' => e = .returned (.bool r) ∧ Below w.heap.size w w' := by
 have hu25 := Try.underlying25
 have hu42 := Try.underlying42
 have HR0_0 := Aside0.mk hr0_0
 have HC0_0 := Aside0.mk hc0_0
 clear hr0_0 hc0_0
 have HR0_1 := Aside0.mk hr0_1
 have HC0_1 := Aside0.mk hc0_1
 clear hr0_1 hc0_1
 have HB := Aside0.mk (Below.refl w.heap.size w)
 have H : (if (l0_0.length : Int) > 50 then (pacelinelaw08_heavy.j0 k true l0_0 l0_1 a0_2) else (pacelinelaw08_heavy.j0 k (decide ((l0_1.length : Int) > 20)) l0_0 l0_1 a0_2)) = some r := h
 clear h
 have HC2 := Aside0.mk H
 clear H
 go_enter Try.func9, Try.ntmps9
 go_upto_region 1 with (first | ((with_reducible refine gate_dst (N := 1) rfl ?_); (try (refine gate_guard (by rfl) ?_; dsimp only)); refine box_event ?hg (N := 1) ?hd (cs := #[.slice A0_0 l0_0.length c0_0, .slice A0_1 l0_1.length c0_1, .int .i64 a0_2]) (t := 25) ?hr ?_; (case hd => rfl); (case hg => rfl); (case hr => first | (go_simp; done) | (go_simp; rfl)); intro gb101 hg w3 hbox hb; have n0_ := Aside0.mk (below_step (by repeat (first | (with_reducible first | exact HB.out | apply below_alloc | apply pw_below_drewN | apply below_drew1) | exact HB.out)) hb); have n1_ := Aside0.mk (hbox); have n2_ := Aside0.mk ((by rw [hg]; exact (below_size (by repeat (first | (with_reducible first | exact HB.out | apply below_alloc | apply pw_below_drewN | apply below_drew1) | exact HB.out))) : w.heap.size ≤ gb101)); have n3_ := Aside0.mk ((by rw [hg]; exact (below_size (by repeat (first | (with_reducible first | exact HB.out | apply below_alloc | apply pw_below_drewN | apply below_drew1) | exact HB.out))) : w.heap.size ≤ gb101)); clear HB; have HB := n0_; have BK101 := n1_; have GW101 := n2_; have GE101 := n3_; clear n0_ n1_ n2_ n3_; clear hb hbox hg))
 (try simp only [Act.put, List.setIfInBounds_toArray, List.set_cons_zero, List.set_cons_succ])
 go_cut [15] (fun v15 wc => ∃ (kq : Nat) (x15_1 : Bool), v15 = .bool x15_1 ∧ Aside0 (pacelinelaw08_heavy.j0 kq x15_1 l0_0 l0_1 a0_2 = some r) ∧ Aside0 (kq ≤ k) ∧ Aside0 (wc.heap[gb101]? = some (.cells #[(.slice A0_0 l0_0.length c0_0), (.slice A0_1 l0_1.length c0_1), .int .i64 a0_2] 25 (0, 0))) ∧ Aside0 (Below w.heap.size w wc))
 case first =>
  have H := HC2.out
  clear HC2
  by_cases c4 : (l0_0.length : Int) > 50
  ·rw [if_pos c4] at H
   have c4b0 : decide (50 < (l0_0.length : Int)) = true := decide_eq_true c4
   have c4b1 : decide (50 < l0_0.length) = true := decide_eq_true (by omega)
   clear c4
   (first | rw [c4b0] | (simp only [i64_w, i32_w]; rw [c4b0]) | skip)
   have H' := Aside0.mk H
   clear H
   have hcz5_0 : w3.cell? ⟨gb101, 0, none⟩ = some (.slice A0_0 l0_0.length c0_0) := (blk_cell BK101.out 0).trans rfl
   have hcz5_1 : w3.cell? ⟨gb101, 1, none⟩ = some (.slice A0_1 l0_1.length c0_1) := (blk_cell BK101.out 1).trans rfl
   have hcz5_2 : w3.cell? ⟨gb101, 2, none⟩ = some (.int .i64 a0_2) := (blk_cell BK101.out 2).trans rfl
   have hfz5_0 := blk_frozen BK101.out 0
   have hfz5_1 := blk_frozen BK101.out 1
   have hfz5_2 := blk_frozen BK101.out 2
   go_wp2
   go_meet
   case rel => exact ⟨_, (true), (by first | rfl | (simp; done) | (simp [*]; done)), H', ⟨by first | omega | exact Nat.le_refl _⟩, ⟨by (with_reducible repeat (first | refine blk_drewN ?_ _ | refine blk_drew ?_ | refine blk_alloc ?_ _)); exact BK101.out⟩, ⟨by repeat (first | (with_reducible first | exact HB.out | apply below_alloc | apply pw_below_drewN | apply below_drew1 | refine below_set ?_ GE101.out) | exact HB.out)⟩⟩
  ·rw [if_neg c4] at H
   have c4b0 : decide (50 < (l0_0.length : Int)) = false := decide_eq_false c4
   have c4b1 : decide (50 < l0_0.length) = false := decide_eq_false (by omega)
   clear c4
   (first | rw [c4b0] | (simp only [i64_w, i32_w]; rw [c4b0]) | skip)
   have H' := Aside0.mk H
   clear H
   have hcz6_0 : w3.cell? ⟨gb101, 0, none⟩ = some (.slice A0_0 l0_0.length c0_0) := (blk_cell BK101.out 0).trans rfl
   have hcz6_1 : w3.cell? ⟨gb101, 1, none⟩ = some (.slice A0_1 l0_1.length c0_1) := (blk_cell BK101.out 1).trans rfl
   have hcz6_2 : w3.cell? ⟨gb101, 2, none⟩ = some (.int .i64 a0_2) := (blk_cell BK101.out 2).trans rfl
   have hfz6_0 := blk_frozen BK101.out 0
   have hfz6_1 := blk_frozen BK101.out 1
   have hfz6_2 := blk_frozen BK101.out 2
   go_wp2
   go_meet
   case rel => exact ⟨_, (decide ((l0_1.length : Int) > 20)), (by first | rfl | (simp; done) | (simp [*]; done)), H', ⟨by first | omega | exact Nat.le_refl _⟩, ⟨by (with_reducible repeat (first | refine blk_drewN ?_ _ | refine blk_drew ?_ | refine blk_alloc ?_ _)); exact BK101.out⟩, ⟨by repeat (first | (with_reducible first | exact HB.out | apply below_alloc | apply pw_below_drewN | apply below_drew1 | refine below_set ?_ GE101.out) | exact HB.out)⟩⟩
 case rest =>
  clear HC2
  try clear p2
  try clear c4
  try clear c4b0
  try clear c4b1
  try clear hcz5_0
  try clear hcz5_1
  try clear hcz5_2
  try clear hcz6_0
  try clear hcz6_1
  try clear hcz6_2
  try clear hfz5_0
  try clear hfz5_1
  try clear hfz5_2
  try clear hfz6_0
  try clear hfz6_1
  try clear hfz6_2
  obtain ⟨kq, x15_1, rfl, HA, HJ1, BK101, HB⟩ := hcut
  cases kq with
  | zero => exact absurd HA.out (by simp [pacelinelaw08_heavy.j0])
  | succ kj1 =>
   have H := HA.out
   clear HA
   simp only [pacelinelaw08_heavy.j0] at H
   by_cases c7 : x15_1 = true
   ·subst c7
    have H1 : (some true) = some r := by rw [if_pos rfl] at H; exact H
    clear H
    have H := H1
    clear H1
    obtain rfl := Option.some.inj H
    go_wp2
    go_ret
    exact ⟨by first | rfl | (simp [errW_none, errW_some] <;> rfl) | (simp [*, errW_none, errW_some] <;> rfl), by repeat (first | (with_reducible first | exact HB.out | apply below_alloc | apply pw_below_drewN | apply below_drew1 | refine below_set ?_ GE101.out) | exact HB.out)⟩
   ·replace c7 := Bool.eq_false_iff.mpr c7
    subst c7
    have H1 : (pacelinelaw08_heavy.l0 kj1 0 l0_0 l0_1 a0_2) = some r := by rw [if_neg (show ¬ (false = true) by decide)] at H; exact H
    clear H
    have H := H1
    clear H1
    have H' := Aside0.mk H
    clear H
    go_wp2
    go_loopg [3] kj1 (fun kq v3 w' => ∃ (x3_2 : Int), v3 = .int .i64 x3_2 ∧ Aside0 (pacelinelaw08_heavy.l0 kq x3_2 l0_0 l0_1 a0_2 = some r) ∧ Aside0 (kq ≤ kj1) ∧ Aside0 (w'.heap[gb101]? = some (.cells #[(.slice A0_0 l0_0.length c0_0), (.slice A0_1 l0_1.length c0_1), .int .i64 a0_2] 25 (0, 0))) ∧ Aside0 (Below w.heap.size w w'))
    case atStart => exact ⟨(0), (by first | rfl | (simp; done) | (simp [*]; done)), H', ⟨Nat.le_refl _⟩, ⟨by (with_reducible repeat (first | refine blk_drewN ?_ _ | refine blk_drew ?_ | refine blk_alloc ?_ _)); exact BK101.out⟩, ⟨by repeat (first | (with_reducible first | exact HB.out | apply below_alloc | apply pw_below_drewN | apply below_drew1 | refine below_set ?_ GE101.out) | exact HB.out)⟩⟩
    case round =>
     clear H'
     try clear p2
     try clear c4
     try clear c4b0
     try clear c4b1
     try clear c7
     try clear hcz5_0
     try clear hcz5_1
     try clear hcz5_2
     try clear hcz6_0
     try clear hcz6_1
     try clear hcz6_2
     try clear hfz5_0
     try clear hfz5_1
     try clear hfz5_2
     try clear hfz6_0
     try clear hfz6_1
     try clear hfz6_2
     try clear p2
     obtain ⟨x3_2, rfl, HA, HK2, BK101, HB⟩ := hrel
     cases gk with
     | zero => exact absurd HA.out (by simp [pacelinelaw08_heavy.l0])
     | succ k2 =>
      have H := HA.out
      clear HA
      simp only [pacelinelaw08_heavy.l0] at H
      by_cases c8 : x3_2 < (l0_1.length : Int)
      ·rw [if_pos c8] at H
       have c8b0 : decide (x3_2 < (l0_1.length : Int)) = true := decide_eq_true c8
       clear c8
       by_cases c9 : 0 ≤ x3_2
       ·rw [if_pos c9] at H
        have c9b0 : decide (0 ≤ x3_2) = true := decide_eq_true c9
        clear c9
        have HC10 := Aside0.mk H
        clear H
        have hcz11_0 : wr.cell? ⟨gb101, 0, none⟩ = some (.slice A0_0 l0_0.length c0_0) := (blk_cell BK101.out 0).trans rfl
        have hcz11_1 : wr.cell? ⟨gb101, 1, none⟩ = some (.slice A0_1 l0_1.length c0_1) := (blk_cell BK101.out 1).trans rfl
        have hcz11_2 : wr.cell? ⟨gb101, 2, none⟩ = some (.int .i64 a0_2) := (blk_cell BK101.out 2).trans rfl
        have hfz11_0 := blk_frozen BK101.out 0
        have hfz11_1 := blk_frozen BK101.out 1
        have hfz11_2 := blk_frozen BK101.out 2
        have p102 : 0 ≤ (x3_2 : Int) := of_decide_eq_true (by first | (with_reducible assumption) | assumption)
        have q102 : x3_2 < (l0_1.length : Int) := of_decide_eq_true (by first | (with_reducible assumption) | assumption)
        obtain ⟨ad102, A102_3, c102_3, A102_4, c102_4, A102_5, c102_5, A102_6, c102_6, e102, hx102_0, hx102_1, hx102_2, hx102_3, hx102_4, hx102_5, hx102_6, hl102_3, hi102_3, hl102_4, hi102_4, hl102_5, hi102_5, hl102_6, hi102_6⟩ := at_T42 HR0_1.out x3_2 p102 q102
        cases e102
        replace hx102_0 := (HB.out.cell (World.block_lt_of_cell? w _ hx102_0)).trans hx102_0
        replace hx102_1 := (HB.out.cell (World.block_lt_of_cell? w _ hx102_1)).trans hx102_1
        replace hx102_2 := (HB.out.cell (World.block_lt_of_cell? w _ hx102_2)).trans hx102_2
        replace hx102_3 := (HB.out.cell (World.block_lt_of_cell? w _ hx102_3)).trans hx102_3
        replace hx102_4 := (HB.out.cell (World.block_lt_of_cell? w _ hx102_4)).trans hx102_4
        replace hx102_5 := (HB.out.cell (World.block_lt_of_cell? w _ hx102_5)).trans hx102_5
        replace hx102_6 := (HB.out.cell (World.block_lt_of_cell? w _ hx102_6)).trans hx102_6
        have HR102_3 := Aside0.mk hi102_3
        have HC102_3 := Aside0.mk hl102_3
        clear hi102_3 hl102_3
        have HR102_4 := Aside0.mk hi102_4
        have HC102_4 := Aside0.mk hl102_4
        clear hi102_4 hl102_4
        have HR102_5 := Aside0.mk hi102_5
        have HC102_5 := Aside0.mk hl102_5
        clear hi102_5 hl102_5
        have HR102_6 := Aside0.mk hi102_6
        have HC102_6 := Aside0.mk hl102_6
        clear hi102_6 hl102_6
        replace p102 := eq_true p102
        replace q102 := eq_true q102
        go_upto_region 7 with (first | ((with_reducible refine gate_dst (N := 4) rfl ?_); (try (refine gate_guard (by rfl) ?_; dsimp only)); refine box_event ?hg (N := 4) ?hd (cs := #[.int .i64 0, .int .i64 0, .int .i64 0, .slice none 0 0, .slice none 0 0, .slice none 0 0, .slice none 0 0]) (t := 42) ?hr ?_; (case hd => rfl); (case hg => rfl); (case hr => first | (go_simp; done) | (go_simp; rfl)); intro gb103 hg w12 hbox hb; have n0_ := Aside0.mk (blk_below (g := gb101) (o := .cells #[.slice A0_0 l0_0.length c0_0, .slice (some ad102) l0_1.length c0_1, .int .i64 a0_2] 25 (0, 0)) (by (with_reducible repeat (first | refine blk_drewN ?_ _ | refine blk_drew ?_ | refine blk_alloc ?_ _)); exact BK101.out) hb); have n1_ := Aside0.mk (below_step (by repeat (first | (with_reducible first | exact HB.out | apply below_alloc | apply pw_below_drewN | apply below_drew1 | refine below_set ?_ GE101.out) | exact HB.out)) hb); have n2_ := Aside0.mk (hbox); have n3_ := Aside0.mk ((by rw [hg]; exact (below_size (by repeat (first | (with_reducible first | exact HB.out | apply below_alloc | apply pw_below_drewN | apply below_drew1 | refine below_set ?_ GE101.out) | exact HB.out))) : w.heap.size ≤ gb103)); have n4_ := Aside0.mk ((by rw [hg]; exact (below_size (by repeat (first | (with_reducible first | exact HB.out | apply below_alloc | apply pw_below_drewN | apply below_drew1 | refine below_set ?_ GE101.out) | exact HB.out))) : w.heap.size ≤ gb103)); have n5_ := Aside0.mk ((by rw [hg]; exact Nat.ne_of_lt (blk_lt (g := gb101) (o := .cells #[.slice A0_0 l0_0.length c0_0, .slice (some ad102) l0_1.length c0_1, .int .i64 a0_2] 25 (0, 0)) (by (with_reducible repeat (first | refine blk_drewN ?_ _ | refine blk_drew ?_ | refine blk_alloc ?_ _)); exact BK101.out)) : gb101 ≠ gb103)); have n6_ := Aside0.mk ((by rw [hg]; exact Nat.ne_of_gt (blk_lt (g := gb101) (o := .cells #[.slice A0_0 l0_0.length c0_0, .slice (some ad102) l0_1.length c0_1, .int .i64 a0_2] 25 (0, 0)) (by (with_reducible repeat (first | refine blk_drewN ?_ _ | refine blk_drew ?_ | refine blk_alloc ?_ _)); exact BK101.out)) : gb103 ≠ gb101)); clear BK101; clear HB; have BK101 := n0_; have HB := n1_; have BK103 := n2_; have GW103 := n3_; have GE103 := n4_; have NB101_103 := n5_; have NB103_101 := n6_; clear n0_ n1_ n2_ n3_ n4_ n5_ n6_; clear hb hbox hg; have hnb13 := NB103_101.out; have hnc13 := NB101_103.out; have hcz14_0 : w12.cell? ⟨gb103, 0, none⟩ = some (.int .i64 0) := (blk_cell BK103.out 0).trans rfl; have hcz14_1 : w12.cell? ⟨gb103, 1, none⟩ = some (.int .i64 0) := (blk_cell BK103.out 1).trans rfl; have hcz14_2 : w12.cell? ⟨gb103, 2, none⟩ = some (.int .i64 0) := (blk_cell BK103.out 2).trans rfl; have hcz14_3 : w12.cell? ⟨gb103, 3, none⟩ = some (.slice none 0 0) := (blk_cell BK103.out 3).trans rfl; have hcz14_4 : w12.cell? ⟨gb103, 4, none⟩ = some (.slice none 0 0) := (blk_cell BK103.out 4).trans rfl; have hcz14_5 : w12.cell? ⟨gb103, 5, none⟩ = some (.slice none 0 0) := (blk_cell BK103.out 5).trans rfl; have hcz14_6 : w12.cell? ⟨gb103, 6, none⟩ = some (.slice none 0 0) := (blk_cell BK103.out 6).trans rfl; have hfz14_0 := blk_frozen BK103.out 0; have hfz14_1 := blk_frozen BK103.out 1; have hfz14_2 := blk_frozen BK103.out 2; have hfz14_3 := blk_frozen BK103.out 3; have hfz14_4 := blk_frozen BK103.out 4; have hfz14_5 := blk_frozen BK103.out 5; have hfz14_6 := blk_frozen BK103.out 6))
        (try simp only [Act.put, List.setIfInBounds_toArray, List.set_cons_zero, List.set_cons_succ])
        go_cut [49] (fun v49 wc => ∃ (kq : Nat) (x49_9 : Bool), v49 = .bool x49_9 ∧ Aside0 (pacelinelaw08_heavy.j2 kq x3_2 x49_9 l0_0 l0_1 a0_2 ((rd_T42 l0_1 x3_2).f0) ((rd_T42 l0_1 x3_2).f1) ((rd_T42 l0_1 x3_2).f2) ((rd_T42 l0_1 x3_2).f3) ((rd_T42 l0_1 x3_2).f4) ((rd_T42 l0_1 x3_2).f5) ((rd_T42 l0_1 x3_2).f6) = some r) ∧ Aside0 (kq ≤ k2) ∧ Aside0 (wc.heap[gb101]? = some (.cells #[(.slice A0_0 l0_0.length c0_0), (.slice (some ad102) l0_1.length c0_1), .int .i64 a0_2] 25 (0, 0))) ∧ Aside0 (wc.heap[gb103]? = some (.cells #[.int .i64 ((rd_T42 l0_1 x3_2).f0), .int .i64 ((rd_T42 l0_1 x3_2).f1), .int .i64 ((rd_T42 l0_1 x3_2).f2), (.slice A102_3 ((rd_T42 l0_1 x3_2).f3).length c102_3), (.slice A102_4 ((rd_T42 l0_1 x3_2).f4).length c102_4), (.slice A102_5 ((rd_T42 l0_1 x3_2).f5).length c102_5), (.slice A102_6 ((rd_T42 l0_1 x3_2).f6).length c102_6)] 42 (0, 0))) ∧ Aside0 (Below w.heap.size w wc))
        case first =>
         have H := HC10.out
         clear HC10
         by_cases c15 : (((rd_T42 l0_1 x3_2).f3).length : Int) > 60
         ·rw [if_pos c15] at H
          have c15b0 : decide (60 < (((rd_T42 l0_1 x3_2).f3).length : Int)) = true := decide_eq_true c15
          have c15b1 : decide (60 < ((rd_T42 l0_1 x3_2).f3).length) = true := decide_eq_true (by omega)
          clear c15
          (first | rw [c15b0] | (simp only [i64_w, i32_w]; rw [c15b0]) | skip)
          have H' := Aside0.mk H
          clear H
          have hnb16 := NB103_101.out
          have hnc16 := NB101_103.out
          have hcz17_0 : w12.cell? ⟨gb103, 0, none⟩ = some (.int .i64 0) := (blk_cell BK103.out 0).trans rfl
          have hcz17_1 : w12.cell? ⟨gb103, 1, none⟩ = some (.int .i64 0) := (blk_cell BK103.out 1).trans rfl
          have hcz17_2 : w12.cell? ⟨gb103, 2, none⟩ = some (.int .i64 0) := (blk_cell BK103.out 2).trans rfl
          have hcz17_3 : w12.cell? ⟨gb103, 3, none⟩ = some (.slice none 0 0) := (blk_cell BK103.out 3).trans rfl
          have hcz17_4 : w12.cell? ⟨gb103, 4, none⟩ = some (.slice none 0 0) := (blk_cell BK103.out 4).trans rfl
          have hcz17_5 : w12.cell? ⟨gb103, 5, none⟩ = some (.slice none 0 0) := (blk_cell BK103.out 5).trans rfl
          have hcz17_6 : w12.cell? ⟨gb103, 6, none⟩ = some (.slice none 0 0) := (blk_cell BK103.out 6).trans rfl
          have hfz17_0 := blk_frozen BK103.out 0
          have hfz17_1 := blk_frozen BK103.out 1
          have hfz17_2 := blk_frozen BK103.out 2
          have hfz17_3 := blk_frozen BK103.out 3
          have hfz17_4 := blk_frozen BK103.out 4
          have hfz17_5 := blk_frozen BK103.out 5
          have hfz17_6 := blk_frozen BK103.out 6
          go_wp2
          go_meet
          case rel => exact ⟨_, (true), (by first | rfl | (simp; done) | (simp [*]; done)), H', ⟨by have := HJ1.out; have := HK2.out; first | omega | exact Nat.le_refl _⟩, ⟨by (with_reducible repeat (first | refine blk_drewN ?_ _ | refine blk_drew ?_ | refine blk_alloc ?_ _)); refine blk_far ?_ NB101_103.out _; (with_reducible repeat (first | refine blk_drewN ?_ _ | refine blk_drew ?_ | refine blk_alloc ?_ _)); refine blk_far ?_ NB101_103.out _; (with_reducible repeat (first | refine blk_drewN ?_ _ | refine blk_drew ?_ | refine blk_alloc ?_ _)); refine blk_far ?_ NB101_103.out _; (with_reducible repeat (first | refine blk_drewN ?_ _ | refine blk_drew ?_ | refine blk_alloc ?_ _)); refine blk_far ?_ NB101_103.out _; (with_reducible repeat (first | refine blk_drewN ?_ _ | refine blk_drew ?_ | refine blk_alloc ?_ _)); refine blk_far ?_ NB101_103.out _; (with_reducible repeat (first | refine blk_drewN ?_ _ | refine blk_drew ?_ | refine blk_alloc ?_ _)); refine blk_far ?_ NB101_103.out _; (with_reducible repeat (first | refine blk_drewN ?_ _ | refine blk_drew ?_ | refine blk_alloc ?_ _)); refine blk_far ?_ NB101_103.out _; (with_reducible repeat (first | refine blk_drewN ?_ _ | refine blk_drew ?_ | refine blk_alloc ?_ _)); exact BK101.out⟩, ⟨by (with_reducible repeat (first | refine blk_drewN ?_ _ | refine blk_drew ?_ | refine blk_alloc ?_ _)); refine blk_put (cs := #[.int .i64 ((rd_T42 l0_1 x3_2).f0), .int .i64 ((rd_T42 l0_1 x3_2).f1), .int .i64 ((rd_T42 l0_1 x3_2).f2), .slice A102_3 ((rd_T42 l0_1 x3_2).f3).length c102_3, .slice A102_4 ((rd_T42 l0_1 x3_2).f4).length c102_4, .slice A102_5 ((rd_T42 l0_1 x3_2).f5).length c102_5, .slice none 0 0]) ?_ 6 _ rfl; (with_reducible repeat (first | refine blk_drewN ?_ _ | refine blk_drew ?_ | refine blk_alloc ?_ _)); refine blk_put (cs := #[.int .i64 ((rd_T42 l0_1 x3_2).f0), .int .i64 ((rd_T42 l0_1 x3_2).f1), .int .i64 ((rd_T42 l0_1 x3_2).f2), .slice A102_3 ((rd_T42 l0_1 x3_2).f3).length c102_3, .slice A102_4 ((rd_T42 l0_1 x3_2).f4).length c102_4, .slice none 0 0, .slice none 0 0]) ?_ 5 _ rfl; (with_reducible repeat (first | refine blk_drewN ?_ _ | refine blk_drew ?_ | refine blk_alloc ?_ _)); refine blk_put (cs := #[.int .i64 ((rd_T42 l0_1 x3_2).f0), .int .i64 ((rd_T42 l0_1 x3_2).f1), .int .i64 ((rd_T42 l0_1 x3_2).f2), .slice A102_3 ((rd_T42 l0_1 x3_2).f3).length c102_3, .slice none 0 0, .slice none 0 0, .slice none 0 0]) ?_ 4 _ rfl; (with_reducible repeat (first | refine blk_drewN ?_ _ | refine blk_drew ?_ | refine blk_alloc ?_ _)); refine blk_put (cs := #[.int .i64 ((rd_T42 l0_1 x3_2).f0), .int .i64 ((rd_T42 l0_1 x3_2).f1), .int .i64 ((rd_T42 l0_1 x3_2).f2), .slice none 0 0, .slice none 0 0, .slice none 0 0, .slice none 0 0]) ?_ 3 _ rfl; (with_reducible repeat (first | refine blk_drewN ?_ _ | refine blk_drew ?_ | refine blk_alloc ?_ _)); refine blk_put (cs := #[.int .i64 ((rd_T42 l0_1 x3_2).f0), .int .i64 ((rd_T42 l0_1 x3_2).f1), .int .i64 0, .slice none 0 0, .slice none 0 0, .slice none 0 0, .slice none 0 0]) ?_ 2 _ rfl; (with_reducible repeat (first | refine blk_drewN ?_ _ | refine blk_drew ?_ | refine blk_alloc ?_ _)); refine blk_put (cs := #[.int .i64 ((rd_T42 l0_1 x3_2).f0), .int .i64 0, .int .i64 0, .slice none 0 0, .slice none 0 0, .slice none 0 0, .slice none 0 0]) ?_ 1 _ rfl; (with_reducible repeat (first | refine blk_drewN ?_ _ | refine blk_drew ?_ | refine blk_alloc ?_ _)); refine blk_put (cs := #[.int .i64 0, .int .i64 0, .int .i64 0, .slice none 0 0, .slice none 0 0, .slice none 0 0, .slice none 0 0]) ?_ 0 _ rfl; (with_reducible repeat (first | refine blk_drewN ?_ _ | refine blk_drew ?_ | refine blk_alloc ?_ _)); exact BK103.out⟩, ⟨by repeat (first | (with_reducible first | exact HB.out | apply below_alloc | apply pw_below_drewN | apply below_drew1 | refine below_set ?_ GE101.out | refine below_set ?_ GE103.out) | exact HB.out)⟩⟩
         ·rw [if_neg c15] at H
          have c15b0 : decide (60 < (((rd_T42 l0_1 x3_2).f3).length : Int)) = false := decide_eq_false c15
          have c15b1 : decide (60 < ((rd_T42 l0_1 x3_2).f3).length) = false := decide_eq_false (by omega)
          clear c15
          (first | rw [c15b0] | (simp only [i64_w, i32_w]; rw [c15b0]) | skip)
          by_cases c18 : (((rd_T42 l0_1 x3_2).f4).length : Int) > 50
          ·rw [if_pos c18] at H
           have c18b0 : decide (50 < (((rd_T42 l0_1 x3_2).f4).length : Int)) = true := decide_eq_true c18
           have c18b1 : decide (50 < ((rd_T42 l0_1 x3_2).f4).length) = true := decide_eq_true (by omega)
           clear c18
           have H' := Aside0.mk H
           clear H
           have hnb19 := NB103_101.out
           have hnc19 := NB101_103.out
           have hcz20_0 : w12.cell? ⟨gb103, 0, none⟩ = some (.int .i64 0) := (blk_cell BK103.out 0).trans rfl
           have hcz20_1 : w12.cell? ⟨gb103, 1, none⟩ = some (.int .i64 0) := (blk_cell BK103.out 1).trans rfl
           have hcz20_2 : w12.cell? ⟨gb103, 2, none⟩ = some (.int .i64 0) := (blk_cell BK103.out 2).trans rfl
           have hcz20_3 : w12.cell? ⟨gb103, 3, none⟩ = some (.slice none 0 0) := (blk_cell BK103.out 3).trans rfl
           have hcz20_4 : w12.cell? ⟨gb103, 4, none⟩ = some (.slice none 0 0) := (blk_cell BK103.out 4).trans rfl
           have hcz20_5 : w12.cell? ⟨gb103, 5, none⟩ = some (.slice none 0 0) := (blk_cell BK103.out 5).trans rfl
           have hcz20_6 : w12.cell? ⟨gb103, 6, none⟩ = some (.slice none 0 0) := (blk_cell BK103.out 6).trans rfl
           have hfz20_0 := blk_frozen BK103.out 0
           have hfz20_1 := blk_frozen BK103.out 1
           have hfz20_2 := blk_frozen BK103.out 2
           have hfz20_3 := blk_frozen BK103.out 3
           have hfz20_4 := blk_frozen BK103.out 4
           have hfz20_5 := blk_frozen BK103.out 5
           have hfz20_6 := blk_frozen BK103.out 6
           go_wp2
           go_meet
           case rel => exact ⟨_, (true), (by first | rfl | (simp; done) | (simp [*]; done)), H', ⟨by have := HJ1.out; have := HK2.out; first | omega | exact Nat.le_refl _⟩, ⟨by (with_reducible repeat (first | refine blk_drewN ?_ _ | refine blk_drew ?_ | refine blk_alloc ?_ _)); refine blk_far ?_ NB101_103.out _; (with_reducible repeat (first | refine blk_drewN ?_ _ | refine blk_drew ?_ | refine blk_alloc ?_ _)); refine blk_far ?_ NB101_103.out _; (with_reducible repeat (first | refine blk_drewN ?_ _ | refine blk_drew ?_ | refine blk_alloc ?_ _)); refine blk_far ?_ NB101_103.out _; (with_reducible repeat (first | refine blk_drewN ?_ _ | refine blk_drew ?_ | refine blk_alloc ?_ _)); refine blk_far ?_ NB101_103.out _; (with_reducible repeat (first | refine blk_drewN ?_ _ | refine blk_drew ?_ | refine blk_alloc ?_ _)); refine blk_far ?_ NB101_103.out _; (with_reducible repeat (first | refine blk_drewN ?_ _ | refine blk_drew ?_ | refine blk_alloc ?_ _)); refine blk_far ?_ NB101_103.out _; (with_reducible repeat (first | refine blk_drewN ?_ _ | refine blk_drew ?_ | refine blk_alloc ?_ _)); refine blk_far ?_ NB101_103.out _; (with_reducible repeat (first | refine blk_drewN ?_ _ | refine blk_drew ?_ | refine blk_alloc ?_ _)); exact BK101.out⟩, ⟨by (with_reducible repeat (first | refine blk_drewN ?_ _ | refine blk_drew ?_ | refine blk_alloc ?_ _)); refine blk_put (cs := #[.int .i64 ((rd_T42 l0_1 x3_2).f0), .int .i64 ((rd_T42 l0_1 x3_2).f1), .int .i64 ((rd_T42 l0_1 x3_2).f2), .slice A102_3 ((rd_T42 l0_1 x3_2).f3).length c102_3, .slice A102_4 ((rd_T42 l0_1 x3_2).f4).length c102_4, .slice A102_5 ((rd_T42 l0_1 x3_2).f5).length c102_5, .slice none 0 0]) ?_ 6 _ rfl; (with_reducible repeat (first | refine blk_drewN ?_ _ | refine blk_drew ?_ | refine blk_alloc ?_ _)); refine blk_put (cs := #[.int .i64 ((rd_T42 l0_1 x3_2).f0), .int .i64 ((rd_T42 l0_1 x3_2).f1), .int .i64 ((rd_T42 l0_1 x3_2).f2), .slice A102_3 ((rd_T42 l0_1 x3_2).f3).length c102_3, .slice A102_4 ((rd_T42 l0_1 x3_2).f4).length c102_4, .slice none 0 0, .slice none 0 0]) ?_ 5 _ rfl; (with_reducible repeat (first | refine blk_drewN ?_ _ | refine blk_drew ?_ | refine blk_alloc ?_ _)); refine blk_put (cs := #[.int .i64 ((rd_T42 l0_1 x3_2).f0), .int .i64 ((rd_T42 l0_1 x3_2).f1), .int .i64 ((rd_T42 l0_1 x3_2).f2), .slice A102_3 ((rd_T42 l0_1 x3_2).f3).length c102_3, .slice none 0 0, .slice none 0 0, .slice none 0 0]) ?_ 4 _ rfl; (with_reducible repeat (first | refine blk_drewN ?_ _ | refine blk_drew ?_ | refine blk_alloc ?_ _)); refine blk_put (cs := #[.int .i64 ((rd_T42 l0_1 x3_2).f0), .int .i64 ((rd_T42 l0_1 x3_2).f1), .int .i64 ((rd_T42 l0_1 x3_2).f2), .slice none 0 0, .slice none 0 0, .slice none 0 0, .slice none 0 0]) ?_ 3 _ rfl; (with_reducible repeat (first | refine blk_drewN ?_ _ | refine blk_drew ?_ | refine blk_alloc ?_ _)); refine blk_put (cs := #[.int .i64 ((rd_T42 l0_1 x3_2).f0), .int .i64 ((rd_T42 l0_1 x3_2).f1), .int .i64 0, .slice none 0 0, .slice none 0 0, .slice none 0 0, .slice none 0 0]) ?_ 2 _ rfl; (with_reducible repeat (first | refine blk_drewN ?_ _ | refine blk_drew ?_ | refine blk_alloc ?_ _)); refine blk_put (cs := #[.int .i64 ((rd_T42 l0_1 x3_2).f0), .int .i64 0, .int .i64 0, .slice none 0 0, .slice none 0 0, .slice none 0 0, .slice none 0 0]) ?_ 1 _ rfl; (with_reducible repeat (first | refine blk_drewN ?_ _ | refine blk_drew ?_ | refine blk_alloc ?_ _)); refine blk_put (cs := #[.int .i64 0, .int .i64 0, .int .i64 0, .slice none 0 0, .slice none 0 0, .slice none 0 0, .slice none 0 0]) ?_ 0 _ rfl; (with_reducible repeat (first | refine blk_drewN ?_ _ | refine blk_drew ?_ | refine blk_alloc ?_ _)); exact BK103.out⟩, ⟨by repeat (first | (with_reducible first | exact HB.out | apply below_alloc | apply pw_below_drewN | apply below_drew1 | refine below_set ?_ GE101.out | refine below_set ?_ GE103.out) | exact HB.out)⟩⟩
          ·rw [if_neg c18] at H
           have c18b0 : decide (50 < (((rd_T42 l0_1 x3_2).f4).length : Int)) = false := decide_eq_false c18
           have c18b1 : decide (50 < ((rd_T42 l0_1 x3_2).f4).length) = false := decide_eq_false (by omega)
           clear c18
           by_cases c21 : (((rd_T42 l0_1 x3_2).f5).length : Int) > 50
           ·rw [if_pos c21] at H
            have c21b0 : decide (50 < (((rd_T42 l0_1 x3_2).f5).length : Int)) = true := decide_eq_true c21
            have c21b1 : decide (50 < ((rd_T42 l0_1 x3_2).f5).length) = true := decide_eq_true (by omega)
            clear c21
            have H' := Aside0.mk H
            clear H
            have hnb22 := NB103_101.out
            have hnc22 := NB101_103.out
            have hcz23_0 : w12.cell? ⟨gb103, 0, none⟩ = some (.int .i64 0) := (blk_cell BK103.out 0).trans rfl
            have hcz23_1 : w12.cell? ⟨gb103, 1, none⟩ = some (.int .i64 0) := (blk_cell BK103.out 1).trans rfl
            have hcz23_2 : w12.cell? ⟨gb103, 2, none⟩ = some (.int .i64 0) := (blk_cell BK103.out 2).trans rfl
            have hcz23_3 : w12.cell? ⟨gb103, 3, none⟩ = some (.slice none 0 0) := (blk_cell BK103.out 3).trans rfl
            have hcz23_4 : w12.cell? ⟨gb103, 4, none⟩ = some (.slice none 0 0) := (blk_cell BK103.out 4).trans rfl
            have hcz23_5 : w12.cell? ⟨gb103, 5, none⟩ = some (.slice none 0 0) := (blk_cell BK103.out 5).trans rfl
            have hcz23_6 : w12.cell? ⟨gb103, 6, none⟩ = some (.slice none 0 0) := (blk_cell BK103.out 6).trans rfl
            have hfz23_0 := blk_frozen BK103.out 0
            have hfz23_1 := blk_frozen BK103.out 1
            have hfz23_2 := blk_frozen BK103.out 2
            have hfz23_3 := blk_frozen BK103.out 3
            have hfz23_4 := blk_frozen BK103.out 4
            have hfz23_5 := blk_frozen BK103.out 5
            have hfz23_6 := blk_frozen BK103.out 6
            go_wp2
            go_meet
            case rel => exact ⟨_, (true), (by first | rfl | (simp; done) | (simp [*]; done)), H', ⟨by have := HJ1.out; have := HK2.out; first | omega | exact Nat.le_refl _⟩, ⟨by (with_reducible repeat (first | refine blk_drewN ?_ _ | refine blk_drew ?_ | refine blk_alloc ?_ _)); refine blk_far ?_ NB101_103.out _; (with_reducible repeat (first | refine blk_drewN ?_ _ | refine blk_drew ?_ | refine blk_alloc ?_ _)); refine blk_far ?_ NB101_103.out _; (with_reducible repeat (first | refine blk_drewN ?_ _ | refine blk_drew ?_ | refine blk_alloc ?_ _)); refine blk_far ?_ NB101_103.out _; (with_reducible repeat (first | refine blk_drewN ?_ _ | refine blk_drew ?_ | refine blk_alloc ?_ _)); refine blk_far ?_ NB101_103.out _; (with_reducible repeat (first | refine blk_drewN ?_ _ | refine blk_drew ?_ | refine blk_alloc ?_ _)); refine blk_far ?_ NB101_103.out _; (with_reducible repeat (first | refine blk_drewN ?_ _ | refine blk_drew ?_ | refine blk_alloc ?_ _)); refine blk_far ?_ NB101_103.out _; (with_reducible repeat (first | refine blk_drewN ?_ _ | refine blk_drew ?_ | refine blk_alloc ?_ _)); refine blk_far ?_ NB101_103.out _; (with_reducible repeat (first | refine blk_drewN ?_ _ | refine blk_drew ?_ | refine blk_alloc ?_ _)); exact BK101.out⟩, ⟨by (with_reducible repeat (first | refine blk_drewN ?_ _ | refine blk_drew ?_ | refine blk_alloc ?_ _)); refine blk_put (cs := #[.int .i64 ((rd_T42 l0_1 x3_2).f0), .int .i64 ((rd_T42 l0_1 x3_2).f1), .int .i64 ((rd_T42 l0_1 x3_2).f2), .slice A102_3 ((rd_T42 l0_1 x3_2).f3).length c102_3, .slice A102_4 ((rd_T42 l0_1 x3_2).f4).length c102_4, .slice A102_5 ((rd_T42 l0_1 x3_2).f5).length c102_5, .slice none 0 0]) ?_ 6 _ rfl; (with_reducible repeat (first | refine blk_drewN ?_ _ | refine blk_drew ?_ | refine blk_alloc ?_ _)); refine blk_put (cs := #[.int .i64 ((rd_T42 l0_1 x3_2).f0), .int .i64 ((rd_T42 l0_1 x3_2).f1), .int .i64 ((rd_T42 l0_1 x3_2).f2), .slice A102_3 ((rd_T42 l0_1 x3_2).f3).length c102_3, .slice A102_4 ((rd_T42 l0_1 x3_2).f4).length c102_4, .slice none 0 0, .slice none 0 0]) ?_ 5 _ rfl; (with_reducible repeat (first | refine blk_drewN ?_ _ | refine blk_drew ?_ | refine blk_alloc ?_ _)); refine blk_put (cs := #[.int .i64 ((rd_T42 l0_1 x3_2).f0), .int .i64 ((rd_T42 l0_1 x3_2).f1), .int .i64 ((rd_T42 l0_1 x3_2).f2), .slice A102_3 ((rd_T42 l0_1 x3_2).f3).length c102_3, .slice none 0 0, .slice none 0 0, .slice none 0 0]) ?_ 4 _ rfl; (with_reducible repeat (first | refine blk_drewN ?_ _ | refine blk_drew ?_ | refine blk_alloc ?_ _)); refine blk_put (cs := #[.int .i64 ((rd_T42 l0_1 x3_2).f0), .int .i64 ((rd_T42 l0_1 x3_2).f1), .int .i64 ((rd_T42 l0_1 x3_2).f2), .slice none 0 0, .slice none 0 0, .slice none 0 0, .slice none 0 0]) ?_ 3 _ rfl; (with_reducible repeat (first | refine blk_drewN ?_ _ | refine blk_drew ?_ | refine blk_alloc ?_ _)); refine blk_put (cs := #[.int .i64 ((rd_T42 l0_1 x3_2).f0), .int .i64 ((rd_T42 l0_1 x3_2).f1), .int .i64 0, .slice none 0 0, .slice none 0 0, .slice none 0 0, .slice none 0 0]) ?_ 2 _ rfl; (with_reducible repeat (first | refine blk_drewN ?_ _ | refine blk_drew ?_ | refine blk_alloc ?_ _)); refine blk_put (cs := #[.int .i64 ((rd_T42 l0_1 x3_2).f0), .int .i64 0, .int .i64 0, .slice none 0 0, .slice none 0 0, .slice none 0 0, .slice none 0 0]) ?_ 1 _ rfl; (with_reducible repeat (first | refine blk_drewN ?_ _ | refine blk_drew ?_ | refine blk_alloc ?_ _)); refine blk_put (cs := #[.int .i64 0, .int .i64 0, .int .i64 0, .slice none 0 0, .slice none 0 0, .slice none 0 0, .slice none 0 0]) ?_ 0 _ rfl; (with_reducible repeat (first | refine blk_drewN ?_ _ | refine blk_drew ?_ | refine blk_alloc ?_ _)); exact BK103.out⟩, ⟨by repeat (first | (with_reducible first | exact HB.out | apply below_alloc | apply pw_below_drewN | apply below_drew1 | refine below_set ?_ GE101.out | refine below_set ?_ GE103.out) | exact HB.out)⟩⟩
           ·rw [if_neg c21] at H
            have c21b0 : decide (50 < (((rd_T42 l0_1 x3_2).f5).length : Int)) = false := decide_eq_false c21
            have c21b1 : decide (50 < ((rd_T42 l0_1 x3_2).f5).length) = false := decide_eq_false (by omega)
            clear c21
            have H' := Aside0.mk H
            clear H
            have hnb24 := NB103_101.out
            have hnc24 := NB101_103.out
            have hcz25_0 : w12.cell? ⟨gb103, 0, none⟩ = some (.int .i64 0) := (blk_cell BK103.out 0).trans rfl
            have hcz25_1 : w12.cell? ⟨gb103, 1, none⟩ = some (.int .i64 0) := (blk_cell BK103.out 1).trans rfl
            have hcz25_2 : w12.cell? ⟨gb103, 2, none⟩ = some (.int .i64 0) := (blk_cell BK103.out 2).trans rfl
            have hcz25_3 : w12.cell? ⟨gb103, 3, none⟩ = some (.slice none 0 0) := (blk_cell BK103.out 3).trans rfl
            have hcz25_4 : w12.cell? ⟨gb103, 4, none⟩ = some (.slice none 0 0) := (blk_cell BK103.out 4).trans rfl
            have hcz25_5 : w12.cell? ⟨gb103, 5, none⟩ = some (.slice none 0 0) := (blk_cell BK103.out 5).trans rfl
            have hcz25_6 : w12.cell? ⟨gb103, 6, none⟩ = some (.slice none 0 0) := (blk_cell BK103.out 6).trans rfl
            have hfz25_0 := blk_frozen BK103.out 0
            have hfz25_1 := blk_frozen BK103.out 1
            have hfz25_2 := blk_frozen BK103.out 2
            have hfz25_3 := blk_frozen BK103.out 3
            have hfz25_4 := blk_frozen BK103.out 4
            have hfz25_5 := blk_frozen BK103.out 5
            have hfz25_6 := blk_frozen BK103.out 6
            go_wp2
            go_meet
            case rel => exact ⟨_, (decide ((((rd_T42 l0_1 x3_2).f6).length : Int) > 20)), (by first | rfl | (simp; done) | (simp [*]; done)), H', ⟨by have := HJ1.out; have := HK2.out; first | omega | exact Nat.le_refl _⟩, ⟨by (with_reducible repeat (first | refine blk_drewN ?_ _ | refine blk_drew ?_ | refine blk_alloc ?_ _)); refine blk_far ?_ NB101_103.out _; (with_reducible repeat (first | refine blk_drewN ?_ _ | refine blk_drew ?_ | refine blk_alloc ?_ _)); refine blk_far ?_ NB101_103.out _; (with_reducible repeat (first | refine blk_drewN ?_ _ | refine blk_drew ?_ | refine blk_alloc ?_ _)); refine blk_far ?_ NB101_103.out _; (with_reducible repeat (first | refine blk_drewN ?_ _ | refine blk_drew ?_ | refine blk_alloc ?_ _)); refine blk_far ?_ NB101_103.out _; (with_reducible repeat (first | refine blk_drewN ?_ _ | refine blk_drew ?_ | refine blk_alloc ?_ _)); refine blk_far ?_ NB101_103.out _; (with_reducible repeat (first | refine blk_drewN ?_ _ | refine blk_drew ?_ | refine blk_alloc ?_ _)); refine blk_far ?_ NB101_103.out _; (with_reducible repeat (first | refine blk_drewN ?_ _ | refine blk_drew ?_ | refine blk_alloc ?_ _)); refine blk_far ?_ NB101_103.out _; (with_reducible repeat (first | refine blk_drewN ?_ _ | refine blk_drew ?_ | refine blk_alloc ?_ _)); exact BK101.out⟩, ⟨by (with_reducible repeat (first | refine blk_drewN ?_ _ | refine blk_drew ?_ | refine blk_alloc ?_ _)); refine blk_put (cs := #[.int .i64 ((rd_T42 l0_1 x3_2).f0), .int .i64 ((rd_T42 l0_1 x3_2).f1), .int .i64 ((rd_T42 l0_1 x3_2).f2), .slice A102_3 ((rd_T42 l0_1 x3_2).f3).length c102_3, .slice A102_4 ((rd_T42 l0_1 x3_2).f4).length c102_4, .slice A102_5 ((rd_T42 l0_1 x3_2).f5).length c102_5, .slice none 0 0]) ?_ 6 _ rfl; (with_reducible repeat (first | refine blk_drewN ?_ _ | refine blk_drew ?_ | refine blk_alloc ?_ _)); refine blk_put (cs := #[.int .i64 ((rd_T42 l0_1 x3_2).f0), .int .i64 ((rd_T42 l0_1 x3_2).f1), .int .i64 ((rd_T42 l0_1 x3_2).f2), .slice A102_3 ((rd_T42 l0_1 x3_2).f3).length c102_3, .slice A102_4 ((rd_T42 l0_1 x3_2).f4).length c102_4, .slice none 0 0, .slice none 0 0]) ?_ 5 _ rfl; (with_reducible repeat (first | refine blk_drewN ?_ _ | refine blk_drew ?_ | refine blk_alloc ?_ _)); refine blk_put (cs := #[.int .i64 ((rd_T42 l0_1 x3_2).f0), .int .i64 ((rd_T42 l0_1 x3_2).f1), .int .i64 ((rd_T42 l0_1 x3_2).f2), .slice A102_3 ((rd_T42 l0_1 x3_2).f3).length c102_3, .slice none 0 0, .slice none 0 0, .slice none 0 0]) ?_ 4 _ rfl; (with_reducible repeat (first | refine blk_drewN ?_ _ | refine blk_drew ?_ | refine blk_alloc ?_ _)); refine blk_put (cs := #[.int .i64 ((rd_T42 l0_1 x3_2).f0), .int .i64 ((rd_T42 l0_1 x3_2).f1), .int .i64 ((rd_T42 l0_1 x3_2).f2), .slice none 0 0, .slice none 0 0, .slice none 0 0, .slice none 0 0]) ?_ 3 _ rfl; (with_reducible repeat (first | refine blk_drewN ?_ _ | refine blk_drew ?_ | refine blk_alloc ?_ _)); refine blk_put (cs := #[.int .i64 ((rd_T42 l0_1 x3_2).f0), .int .i64 ((rd_T42 l0_1 x3_2).f1), .int .i64 0, .slice none 0 0, .slice none 0 0, .slice none 0 0, .slice none 0 0]) ?_ 2 _ rfl; (with_reducible repeat (first | refine blk_drewN ?_ _ | refine blk_drew ?_ | refine blk_alloc ?_ _)); refine blk_put (cs := #[.int .i64 ((rd_T42 l0_1 x3_2).f0), .int .i64 0, .int .i64 0, .slice none 0 0, .slice none 0 0, .slice none 0 0, .slice none 0 0]) ?_ 1 _ rfl; (with_reducible repeat (first | refine blk_drewN ?_ _ | refine blk_drew ?_ | refine blk_alloc ?_ _)); refine blk_put (cs := #[.int .i64 0, .int .i64 0, .int .i64 0, .slice none 0 0, .slice none 0 0, .slice none 0 0, .slice none 0 0]) ?_ 0 _ rfl; (with_reducible repeat (first | refine blk_drewN ?_ _ | refine blk_drew ?_ | refine blk_alloc ?_ _)); exact BK103.out⟩, ⟨by repeat (first | (with_reducible first | exact HB.out | apply below_alloc | apply pw_below_drewN | apply below_drew1 | refine below_set ?_ GE101.out | refine below_set ?_ GE103.out) | exact HB.out)⟩⟩
        case rest =>
         clear HC10
         try clear c1
         try clear p1
         try clear q1
         try clear hx1
         try clear c2
         try clear p2
         try clear c4
         try clear c4b0
         try clear c4b1
         try clear c7
         try clear c8
         try clear c8b0
         try clear c9
         try clear c9b0
         try clear c10
         try clear p10
         try clear q10
         try clear hx10
         try clear c13
         try clear c15
         try clear c15b0
         try clear c15b1
         try clear c16
         try clear c18
         try clear c18b0
         try clear c18b1
         try clear c19
         try clear c21
         try clear c21b0
         try clear c21b1
         try clear c22
         try clear c24
         try clear hcz11_0
         try clear hcz11_1
         try clear hcz11_2
         try clear hcz14_0
         try clear hcz14_1
         try clear hcz14_2
         try clear hcz14_3
         try clear hcz14_4
         try clear hcz14_5
         try clear hcz14_6
         try clear hcz17_0
         try clear hcz17_1
         try clear hcz17_2
         try clear hcz17_3
         try clear hcz17_4
         try clear hcz17_5
         try clear hcz17_6
         try clear hcz20_0
         try clear hcz20_1
         try clear hcz20_2
         try clear hcz20_3
         try clear hcz20_4
         try clear hcz20_5
         try clear hcz20_6
         try clear hcz23_0
         try clear hcz23_1
         try clear hcz23_2
         try clear hcz23_3
         try clear hcz23_4
         try clear hcz23_5
         try clear hcz23_6
         try clear hcz25_0
         try clear hcz25_1
         try clear hcz25_2
         try clear hcz25_3
         try clear hcz25_4
         try clear hcz25_5
         try clear hcz25_6
         try clear hcz5_0
         try clear hcz5_1
         try clear hcz5_2
         try clear hcz6_0
         try clear hcz6_1
         try clear hcz6_2
         try clear hfz11_0
         try clear hfz11_1
         try clear hfz11_2
         try clear hfz14_0
         try clear hfz14_1
         try clear hfz14_2
         try clear hfz14_3
         try clear hfz14_4
         try clear hfz14_5
         try clear hfz14_6
         try clear hfz17_0
         try clear hfz17_1
         try clear hfz17_2
         try clear hfz17_3
         try clear hfz17_4
         try clear hfz17_5
         try clear hfz17_6
         try clear hfz20_0
         try clear hfz20_1
         try clear hfz20_2
         try clear hfz20_3
         try clear hfz20_4
         try clear hfz20_5
         try clear hfz20_6
         try clear hfz23_0
         try clear hfz23_1
         try clear hfz23_2
         try clear hfz23_3
         try clear hfz23_4
         try clear hfz23_5
         try clear hfz23_6
         try clear hfz25_0
         try clear hfz25_1
         try clear hfz25_2
         try clear hfz25_3
         try clear hfz25_4
         try clear hfz25_5
         try clear hfz25_6
         try clear hfz5_0
         try clear hfz5_1
         try clear hfz5_2
         try clear hfz6_0
         try clear hfz6_1
         try clear hfz6_2
         try clear hx102_0
         try clear hx102_1
         try clear hx102_2
         try clear hx102_3
         try clear hx102_4
         try clear hx102_5
         try clear hx102_6
         try clear p102
         try clear p2
         try clear q102
         obtain ⟨kq, x49_9, rfl, HA, HJ9, BK101, BK103, HB⟩ := hcut
         cases kq with
         | zero => exact absurd HA.out (by simp [pacelinelaw08_heavy.j2])
         | succ kj9 =>
          have H := HA.out
          clear HA
          simp only [pacelinelaw08_heavy.j2] at H
          by_cases c26 : x49_9 = true
          ·subst c26
           have H1 : (some true) = some r := by rw [if_pos rfl] at H; exact H
           clear H
           have H := H1
           clear H1
           obtain rfl := Option.some.inj H
           go_wp2
           go_ret
           exact ⟨by first | rfl | (simp [errW_none, errW_some] <;> rfl) | (simp [*, errW_none, errW_some] <;> rfl), by repeat (first | (with_reducible first | exact HB.out | apply below_alloc | apply pw_below_drewN | apply below_drew1 | refine below_set ?_ GE101.out | refine below_set ?_ GE103.out) | exact HB.out)⟩
          ·replace c26 := Bool.eq_false_iff.mpr c26
           subst c26
           have H1 : (pacelinelaw08_heavy.l1 kj9 x3_2 0 l0_0 l0_1 a0_2 ((rd_T42 l0_1 x3_2).f0) ((rd_T42 l0_1 x3_2).f1) ((rd_T42 l0_1 x3_2).f2) ((rd_T42 l0_1 x3_2).f3) ((rd_T42 l0_1 x3_2).f4) ((rd_T42 l0_1 x3_2).f5) ((rd_T42 l0_1 x3_2).f6)) = some r := by rw [if_neg (show ¬ (false = true) by decide)] at H; exact H
           clear H
           have H := H1
           clear H1
           have H' := Aside0.mk H
           clear H
           go_wp2
           go_loopg [5] kj9 (fun kq v5 w' => ∃ (x5_4 : Int), v5 = .int .i64 x5_4 ∧ Aside0 (pacelinelaw08_heavy.l1 kq x3_2 x5_4 l0_0 l0_1 a0_2 ((rd_T42 l0_1 x3_2).f0) ((rd_T42 l0_1 x3_2).f1) ((rd_T42 l0_1 x3_2).f2) ((rd_T42 l0_1 x3_2).f3) ((rd_T42 l0_1 x3_2).f4) ((rd_T42 l0_1 x3_2).f5) ((rd_T42 l0_1 x3_2).f6) = some r) ∧ Aside0 (kq ≤ kj9) ∧ Aside0 (w'.heap[gb101]? = some (.cells #[(.slice A0_0 l0_0.length c0_0), (.slice (some ad102) l0_1.length c0_1), .int .i64 a0_2] 25 (0, 0))) ∧ Aside0 (w'.heap[gb103]? = some (.cells #[.int .i64 ((rd_T42 l0_1 x3_2).f0), .int .i64 ((rd_T42 l0_1 x3_2).f1), .int .i64 ((rd_T42 l0_1 x3_2).f2), (.slice A102_3 ((rd_T42 l0_1 x3_2).f3).length c102_3), (.slice A102_4 ((rd_T42 l0_1 x3_2).f4).length c102_4), (.slice A102_5 ((rd_T42 l0_1 x3_2).f5).length c102_5), (.slice A102_6 ((rd_T42 l0_1 x3_2).f6).length c102_6)] 42 (0, 0))) ∧ Aside0 (Below w.heap.size w w'))
           case atStart => exact ⟨(0), (by first | rfl | (simp; done) | (simp [*]; done)), H', ⟨Nat.le_refl _⟩, ⟨by (with_reducible repeat (first | refine blk_drewN ?_ _ | refine blk_drew ?_ | refine blk_alloc ?_ _)); exact BK101.out⟩, ⟨by (with_reducible repeat (first | refine blk_drewN ?_ _ | refine blk_drew ?_ | refine blk_alloc ?_ _)); exact BK103.out⟩, ⟨by repeat (first | (with_reducible first | exact HB.out | apply below_alloc | apply pw_below_drewN | apply below_drew1 | refine below_set ?_ GE101.out | refine below_set ?_ GE103.out) | exact HB.out)⟩⟩
           case round =>
            clear H'
            try clear c1
            try clear p1
            try clear q1
            try clear hx1
            try clear c2
            try clear p2
            try clear c4
            try clear c4b0
            try clear c4b1
            try clear c7
            try clear c8
            try clear c8b0
            try clear c9
            try clear c9b0
            try clear c10
            try clear p10
            try clear q10
            try clear hx10
            try clear c13
            try clear c15
            try clear c15b0
            try clear c15b1
            try clear c16
            try clear c18
            try clear c18b0
            try clear c18b1
            try clear c19
            try clear c21
            try clear c21b0
            try clear c21b1
            try clear c22
            try clear c24
            try clear c26
            try clear hcz11_0
            try clear hcz11_1
            try clear hcz11_2
            try clear hcz14_0
            try clear hcz14_1
            try clear hcz14_2
            try clear hcz14_3
            try clear hcz14_4
            try clear hcz14_5
            try clear hcz14_6
            try clear hcz17_0
            try clear hcz17_1
            try clear hcz17_2
            try clear hcz17_3
            try clear hcz17_4
            try clear hcz17_5
            try clear hcz17_6
            try clear hcz20_0
            try clear hcz20_1
            try clear hcz20_2
            try clear hcz20_3
            try clear hcz20_4
            try clear hcz20_5
            try clear hcz20_6
            try clear hcz23_0
            try clear hcz23_1
            try clear hcz23_2
            try clear hcz23_3
            try clear hcz23_4
            try clear hcz23_5
            try clear hcz23_6
            try clear hcz25_0
            try clear hcz25_1
            try clear hcz25_2
            try clear hcz25_3
            try clear hcz25_4
            try clear hcz25_5
            try clear hcz25_6
            try clear hcz5_0
            try clear hcz5_1
            try clear hcz5_2
            try clear hcz6_0
            try clear hcz6_1
            try clear hcz6_2
            try clear hfz11_0
            try clear hfz11_1
            try clear hfz11_2
            try clear hfz14_0
            try clear hfz14_1
            try clear hfz14_2
            try clear hfz14_3
            try clear hfz14_4
            try clear hfz14_5
            try clear hfz14_6
            try clear hfz17_0
            try clear hfz17_1
            try clear hfz17_2
            try clear hfz17_3
            try clear hfz17_4
            try clear hfz17_5
            try clear hfz17_6
            try clear hfz20_0
            try clear hfz20_1
            try clear hfz20_2
            try clear hfz20_3
            try clear hfz20_4
            try clear hfz20_5
            try clear hfz20_6
            try clear hfz23_0
            try clear hfz23_1
            try clear hfz23_2
            try clear hfz23_3
            try clear hfz23_4
            try clear hfz23_5
            try clear hfz23_6
            try clear hfz25_0
            try clear hfz25_1
            try clear hfz25_2
            try clear hfz25_3
            try clear hfz25_4
            try clear hfz25_5
            try clear hfz25_6
            try clear hfz5_0
            try clear hfz5_1
            try clear hfz5_2
            try clear hfz6_0
            try clear hfz6_1
            try clear hfz6_2
            try clear hx102_0
            try clear hx102_1
            try clear hx102_2
            try clear hx102_3
            try clear hx102_4
            try clear hx102_5
            try clear hx102_6
            try clear p1
            try clear p10
            try clear p102
            try clear p2
            try clear q1
            try clear q10
            try clear q102
            obtain ⟨x5_4, rfl, HA, HK4, BK101, BK103, HB⟩ := hrel
            cases gk with
            | zero => exact absurd HA.out (by simp [pacelinelaw08_heavy.l1])
            | succ k4 =>
             have H := HA.out
             clear HA
             simp only [pacelinelaw08_heavy.l1] at H
             by_cases c27 : x5_4 < (((rd_T42 l0_1 x3_2).f3).length : Int)
             ·rw [if_pos c27] at H
              have c27b0 : decide (x5_4 < (((rd_T42 l0_1 x3_2).f3).length : Int)) = true := decide_eq_true c27
              clear c27
              by_cases c28 : 0 ≤ x5_4
              ·rw [if_pos c28] at H
               have c28b0 : decide (0 ≤ x5_4) = true := decide_eq_true c28
               clear c28
               by_cases c29 : (((rd_T44 ((rd_T42 l0_1 x3_2).f3) x5_4).f3).length : Int) > 20
               ·rw [if_pos c29] at H
                have c29b0 : decide (20 < (((rd_T44 ((rd_T42 l0_1 x3_2).f3) x5_4).f3).length : Int)) = true := decide_eq_true c29
                have c29b1 : decide (20 < ((rd_T44 ((rd_T42 l0_1 x3_2).f3) x5_4).f3).length) = true := decide_eq_true (by omega)
                clear c29
                obtain rfl := Option.some.inj H
                have hnb30 := NB103_101.out
                have hnc30 := NB101_103.out
                have hcz31_0 : wr.cell? ⟨gb103, 0, none⟩ = some (.int .i64 ((rd_T42 l0_1 x3_2).f0)) := (blk_cell BK103.out 0).trans rfl
                have hcz31_1 : wr.cell? ⟨gb103, 1, none⟩ = some (.int .i64 ((rd_T42 l0_1 x3_2).f1)) := (blk_cell BK103.out 1).trans rfl
                have hcz31_2 : wr.cell? ⟨gb103, 2, none⟩ = some (.int .i64 ((rd_T42 l0_1 x3_2).f2)) := (blk_cell BK103.out 2).trans rfl
                have hcz31_3 : wr.cell? ⟨gb103, 3, none⟩ = some (.slice A102_3 ((rd_T42 l0_1 x3_2).f3).length c102_3) := (blk_cell BK103.out 3).trans rfl
                have hcz31_4 : wr.cell? ⟨gb103, 4, none⟩ = some (.slice A102_4 ((rd_T42 l0_1 x3_2).f4).length c102_4) := (blk_cell BK103.out 4).trans rfl
                have hcz31_5 : wr.cell? ⟨gb103, 5, none⟩ = some (.slice A102_5 ((rd_T42 l0_1 x3_2).f5).length c102_5) := (blk_cell BK103.out 5).trans rfl
                have hcz31_6 : wr.cell? ⟨gb103, 6, none⟩ = some (.slice A102_6 ((rd_T42 l0_1 x3_2).f6).length c102_6) := (blk_cell BK103.out 6).trans rfl
                have hfz31_0 := blk_frozen BK103.out 0
                have hfz31_1 := blk_frozen BK103.out 1
                have hfz31_2 := blk_frozen BK103.out 2
                have hfz31_3 := blk_frozen BK103.out 3
                have hfz31_4 := blk_frozen BK103.out 4
                have hfz31_5 := blk_frozen BK103.out 5
                have hfz31_6 := blk_frozen BK103.out 6
                have p104 : 0 ≤ (x5_4 : Int) := of_decide_eq_true (by first | (with_reducible assumption) | assumption)
                have q104 : x5_4 < (((rd_T42 l0_1 x3_2).f3).length : Int) := of_decide_eq_true (by first | (with_reducible assumption) | assumption)
                obtain ⟨ad104, A104_3, c104_3, e104, hx104_0, hx104_1, hx104_2, hx104_3, hl104_3, hi104_3⟩ := at_T44 HR102_3.out x5_4 p104 q104
                cases e104
                replace hx104_0 := (HB.out.cell (World.block_lt_of_cell? w _ hx104_0)).trans hx104_0
                replace hx104_1 := (HB.out.cell (World.block_lt_of_cell? w _ hx104_1)).trans hx104_1
                replace hx104_2 := (HB.out.cell (World.block_lt_of_cell? w _ hx104_2)).trans hx104_2
                replace hx104_3 := (HB.out.cell (World.block_lt_of_cell? w _ hx104_3)).trans hx104_3
                have HR104_3 := Aside0.mk hi104_3
                have HC104_3 := Aside0.mk hl104_3
                clear hi104_3 hl104_3
                replace p104 := eq_true p104
                replace q104 := eq_true q104
                go_wp2
                go_ret
                exact ⟨by first | rfl | (simp [errW_none, errW_some] <;> rfl) | (simp [*, errW_none, errW_some] <;> rfl), by repeat (first | (with_reducible first | exact HB.out | apply below_alloc | apply pw_below_drewN | apply below_drew1 | refine below_set ?_ GE101.out | refine below_set ?_ GE103.out) | exact HB.out)⟩
               ·rw [if_neg c29] at H
                have c29b0 : decide (20 < (((rd_T44 ((rd_T42 l0_1 x3_2).f3) x5_4).f3).length : Int)) = false := decide_eq_false c29
                have c29b1 : decide (20 < ((rd_T44 ((rd_T42 l0_1 x3_2).f3) x5_4).f3).length) = false := decide_eq_false (by omega)
                clear c29
                have H' := Aside0.mk H
                clear H
                have hnb32 := NB103_101.out
                have hnc32 := NB101_103.out
                have hcz33_0 : wr.cell? ⟨gb103, 0, none⟩ = some (.int .i64 ((rd_T42 l0_1 x3_2).f0)) := (blk_cell BK103.out 0).trans rfl
                have hcz33_1 : wr.cell? ⟨gb103, 1, none⟩ = some (.int .i64 ((rd_T42 l0_1 x3_2).f1)) := (blk_cell BK103.out 1).trans rfl
                have hcz33_2 : wr.cell? ⟨gb103, 2, none⟩ = some (.int .i64 ((rd_T42 l0_1 x3_2).f2)) := (blk_cell BK103.out 2).trans rfl
                have hcz33_3 : wr.cell? ⟨gb103, 3, none⟩ = some (.slice A102_3 ((rd_T42 l0_1 x3_2).f3).length c102_3) := (blk_cell BK103.out 3).trans rfl
                have hcz33_4 : wr.cell? ⟨gb103, 4, none⟩ = some (.slice A102_4 ((rd_T42 l0_1 x3_2).f4).length c102_4) := (blk_cell BK103.out 4).trans rfl
                have hcz33_5 : wr.cell? ⟨gb103, 5, none⟩ = some (.slice A102_5 ((rd_T42 l0_1 x3_2).f5).length c102_5) := (blk_cell BK103.out 5).trans rfl
                have hcz33_6 : wr.cell? ⟨gb103, 6, none⟩ = some (.slice A102_6 ((rd_T42 l0_1 x3_2).f6).length c102_6) := (blk_cell BK103.out 6).trans rfl
                have hfz33_0 := blk_frozen BK103.out 0
                have hfz33_1 := blk_frozen BK103.out 1
                have hfz33_2 := blk_frozen BK103.out 2
                have hfz33_3 := blk_frozen BK103.out 3
                have hfz33_4 := blk_frozen BK103.out 4
                have hfz33_5 := blk_frozen BK103.out 5
                have hfz33_6 := blk_frozen BK103.out 6
                have p104 : 0 ≤ (x5_4 : Int) := of_decide_eq_true (by first | (with_reducible assumption) | assumption)
                have q104 : x5_4 < (((rd_T42 l0_1 x3_2).f3).length : Int) := of_decide_eq_true (by first | (with_reducible assumption) | assumption)
                obtain ⟨ad104, A104_3, c104_3, e104, hx104_0, hx104_1, hx104_2, hx104_3, hl104_3, hi104_3⟩ := at_T44 HR102_3.out x5_4 p104 q104
                cases e104
                replace hx104_0 := (HB.out.cell (World.block_lt_of_cell? w _ hx104_0)).trans hx104_0
                replace hx104_1 := (HB.out.cell (World.block_lt_of_cell? w _ hx104_1)).trans hx104_1
                replace hx104_2 := (HB.out.cell (World.block_lt_of_cell? w _ hx104_2)).trans hx104_2
                replace hx104_3 := (HB.out.cell (World.block_lt_of_cell? w _ hx104_3)).trans hx104_3
                have HR104_3 := Aside0.mk hi104_3
                have HC104_3 := Aside0.mk hl104_3
                clear hi104_3 hl104_3
                replace p104 := eq_true p104
                replace q104 := eq_true q104
                go_wp2
                go_roundg k4
                case measure => have := HJ1.out; have := HK2.out; have := HJ9.out; have := HK4.out; omega
                case rel => exact ⟨(wrap64 (x5_4 + 1)), (by first | rfl | (simp; done) | (simp [*]; done)), H', ⟨by have := HJ1.out; have := HK2.out; have := HJ9.out; have := HK4.out; omega⟩, ⟨by (with_reducible repeat (first | refine blk_drewN ?_ _ | refine blk_drew ?_ | refine blk_alloc ?_ _)); exact BK101.out⟩, ⟨by (with_reducible repeat (first | refine blk_drewN ?_ _ | refine blk_drew ?_ | refine blk_alloc ?_ _)); exact BK103.out⟩, ⟨by repeat (first | (with_reducible first | exact HB.out | apply below_alloc | apply pw_below_drewN | apply below_drew1 | refine below_set ?_ GE101.out | refine below_set ?_ GE103.out) | exact HB.out)⟩⟩
              ·rw [if_neg c28] at H
               exact absurd H (by simp)
             ·rw [if_neg c27] at H
              have c27b0 : decide (x5_4 < (((rd_T42 l0_1 x3_2).f3).length : Int)) = false := decide_eq_false c27
              clear c27
              have H' := Aside0.mk H
              clear H
              have hnb34 := NB103_101.out
              have hnc34 := NB101_103.out
              have hcz35_0 : wr.cell? ⟨gb103, 0, none⟩ = some (.int .i64 ((rd_T42 l0_1 x3_2).f0)) := (blk_cell BK103.out 0).trans rfl
              have hcz35_1 : wr.cell? ⟨gb103, 1, none⟩ = some (.int .i64 ((rd_T42 l0_1 x3_2).f1)) := (blk_cell BK103.out 1).trans rfl
              have hcz35_2 : wr.cell? ⟨gb103, 2, none⟩ = some (.int .i64 ((rd_T42 l0_1 x3_2).f2)) := (blk_cell BK103.out 2).trans rfl
              have hcz35_3 : wr.cell? ⟨gb103, 3, none⟩ = some (.slice A102_3 ((rd_T42 l0_1 x3_2).f3).length c102_3) := (blk_cell BK103.out 3).trans rfl
              have hcz35_4 : wr.cell? ⟨gb103, 4, none⟩ = some (.slice A102_4 ((rd_T42 l0_1 x3_2).f4).length c102_4) := (blk_cell BK103.out 4).trans rfl
              have hcz35_5 : wr.cell? ⟨gb103, 5, none⟩ = some (.slice A102_5 ((rd_T42 l0_1 x3_2).f5).length c102_5) := (blk_cell BK103.out 5).trans rfl
              have hcz35_6 : wr.cell? ⟨gb103, 6, none⟩ = some (.slice A102_6 ((rd_T42 l0_1 x3_2).f6).length c102_6) := (blk_cell BK103.out 6).trans rfl
              have hfz35_0 := blk_frozen BK103.out 0
              have hfz35_1 := blk_frozen BK103.out 1
              have hfz35_2 := blk_frozen BK103.out 2
              have hfz35_3 := blk_frozen BK103.out 3
              have hfz35_4 := blk_frozen BK103.out 4
              have hfz35_5 := blk_frozen BK103.out 5
              have hfz35_6 := blk_frozen BK103.out 6
              go_wp2
              go_roundg k4
              case measure => have := HJ1.out; have := HK2.out; have := HJ9.out; have := HK4.out; omega
              case rel => exact ⟨(wrap64 (x3_2 + 1)), (by first | rfl | (simp; done) | (simp [*]; done)), H', ⟨by have := HJ1.out; have := HK2.out; have := HJ9.out; have := HK4.out; omega⟩, ⟨by (with_reducible repeat (first | refine blk_drewN ?_ _ | refine blk_drew ?_ | refine blk_alloc ?_ _)); exact BK101.out⟩, ⟨by repeat (first | (with_reducible first | exact HB.out | apply below_alloc | apply pw_below_drewN | apply below_drew1 | refine below_set ?_ GE101.out | refine below_set ?_ GE103.out) | exact HB.out)⟩⟩
       ·rw [if_neg c9] at H
        exact absurd H (by simp)
      ·rw [if_neg c8] at H
       have c8b0 : decide (x3_2 < (l0_1.length : Int)) = false := decide_eq_false c8
       clear c8
       obtain rfl := Option.some.inj H
       have hcz36_0 : wr.cell? ⟨gb101, 0, none⟩ = some (.slice A0_0 l0_0.length c0_0) := (blk_cell BK101.out 0).trans rfl
       have hcz36_1 : wr.cell? ⟨gb101, 1, none⟩ = some (.slice A0_1 l0_1.length c0_1) := (blk_cell BK101.out 1).trans rfl
       have hcz36_2 : wr.cell? ⟨gb101, 2, none⟩ = some (.int .i64 a0_2) := (blk_cell BK101.out 2).trans rfl
       have hfz36_0 := blk_frozen BK101.out 0
       have hfz36_1 := blk_frozen BK101.out 1
       have hfz36_2 := blk_frozen BK101.out 2
       go_wp2
       go_ret
       exact ⟨by first | rfl | (simp [errW_none, errW_some] <;> rfl) | (simp [*, errW_none, errW_some] <;> rfl), by repeat (first | (with_reducible first | exact HB.out | apply below_alloc | apply pw_below_drewN | apply below_drew1 | refine below_set ?_ GE101.out) | exact HB.out)⟩

end Go.Proofs.Ytdlagficilbbbaa.PConfigKinds
