-- Written by gp.py (this project's driver over the kit's print) out of the translation and wip/given; Lean checks it.
import Derived.Test.YtdlagficilbbbaaPConfigKindsx0
import Derived.Test.YtdlagficilbbbaaPConfigKindsx3
import Derived.Test.YtdlagficilbbbaaPConfigKindsx5
import Derived.Test.YtdlagficilbbbaaPConfigKindsx9
namespace Go.Proofs.Ytdlagficilbbbaa.PConfigKinds
open Go.RowKit Go.Proofs.YtdlagficilbbbaaR Go.Proofs.YtdlagficilbbbaaW.PrintWords Go.Proofs.YtdlagficilbbbaaW.PrintLast Go.Proofs.YtdlagficilbbbaaW.PrintMore
attribute [local go_sem] max2_int min2_int max_two min_two max_three min_three max_four min_four   -- for this text's walks alone
set_option linter.unusedVariables false
set_option linter.unusedSimpArgs false

/-! ### pacelineref08_Check: function 11 -/
mutual
def pacelineref08_Check.j0 : Nat → Bool → List Int → List (S42) → Int → Option (Int × Int)
 | 0, _, _, _, _ => none
 | k + 1, x32, x145000, x145001, x145002 => if x32 = true then (some ((-1), 1)) else (pacelineref08_Check.l0 k 0 x145000 x145001 x145002)
def pacelineref08_Check.l0 : Nat → Int → List Int → List (S42) → Int → Option (Int × Int)
 | 0, _, _, _, _ => none
 | k + 1, x5, x145000, x145001, x145002 => if x5 < (x145001.length : Int) then (if 0 ≤ x5 then ((pacelineref08_Fed.f k ((rd_T42 x145001 x5).f0) ((rd_T42 x145001 x5).f1) ((rd_T42 x145001 x5).f2) ((rd_T42 x145001 x5).f3) ((rd_T42 x145001 x5).f4) ((rd_T42 x145001 x5).f5) ((rd_T42 x145001 x5).f6) (x145000.length : Int)).bind fun t147 => (if t147 = 0 then (pacelineref08_Check.l0 k (wrap64 (x5 + 1)) x145000 x145001 x145002) else (some (x5, t147)))) else (none)) else (some ((-1), 0))
end
def pacelineref08_Check.f (k : Nat) (l0_0 : List Int) (l0_1 : List (S42)) (a0_2 : Int) : Option (Int × Int) := (pacelineref05_Check.f k l0_0).bind fun t145 => (if t145 = 0 then (if a0_2 < 0 then (pacelineref08_Check.j0 k true l0_0 l0_1 a0_2) else (if a0_2 > 1099511627776 then (pacelineref08_Check.j0 k true l0_0 l0_1 a0_2) else (if (l0_1.length : Int) < 1 then (pacelineref08_Check.j0 k true l0_0 l0_1 a0_2) else (pacelineref08_Check.j0 k (decide ((l0_1.length : Int) > 8)) l0_0 l0_1 a0_2)))) else (some ((-1), t145)))
theorem pacelineref08_Check.mono_l : ∀ k, (∀ y0 y1 y2 y3, LeO (pacelineref08_Check.j0 k y0 y1 y2 y3) (pacelineref08_Check.j0 (k + 1) y0 y1 y2 y3)) ∧ (∀ y0 y1 y2 y3, LeO (pacelineref08_Check.l0 k y0 y1 y2 y3) (pacelineref08_Check.l0 (k + 1) y0 y1 y2 y3))
 | 0 => ⟨fun _ _ _ _ r h => by simp [pacelineref08_Check.j0] at h, fun _ _ _ _ r h => by simp [pacelineref08_Check.l0] at h⟩
 | k + 1 => by
  obtain ⟨ih0, ih1⟩ := pacelineref08_Check.mono_l k
  refine ⟨?_, ?_⟩
  ·intro y0 y1 y2 y3
   unfold pacelineref08_Check.j0
   repeat' first
   | (with_reducible exact ih0 _ _ _ _)
   | (with_reducible exact ih1 _ _ _ _)
   | (with_reducible exact pacelineref05_Check.mono _ _)
   | (with_reducible exact pacelineref08_Fed.mono _ _ _ _ _ _ _ _ _)
   | (with_reducible exact LeO.refl _)
   | (with_reducible exact LeO.none _)
   | (with_reducible refine LeO.ite ?_ ?_)
   | (with_reducible refine LeO.bind ?_ (fun _ => ?_))
   | exact ih0 _ _ _ _
   | exact ih1 _ _ _ _
   | exact pacelineref05_Check.mono _ _
   | exact pacelineref08_Fed.mono _ _ _ _ _ _ _ _ _
   | exact LeO.none _
   | refine LeO.ite ?_ ?_
   | refine LeO.bind ?_ (fun _ => ?_)
  ·intro y0 y1 y2 y3
   unfold pacelineref08_Check.l0
   repeat' first
   | (with_reducible exact ih0 _ _ _ _)
   | (with_reducible exact ih1 _ _ _ _)
   | (with_reducible exact pacelineref05_Check.mono _ _)
   | (with_reducible exact pacelineref08_Fed.mono _ _ _ _ _ _ _ _ _)
   | (with_reducible exact LeO.refl _)
   | (with_reducible exact LeO.none _)
   | (with_reducible refine LeO.ite ?_ ?_)
   | (with_reducible refine LeO.bind ?_ (fun _ => ?_))
   | exact ih0 _ _ _ _
   | exact ih1 _ _ _ _
   | exact pacelineref05_Check.mono _ _
   | exact pacelineref08_Fed.mono _ _ _ _ _ _ _ _ _
   | exact LeO.none _
   | refine LeO.ite ?_ ?_
   | refine LeO.bind ?_ (fun _ => ?_)
theorem pacelineref08_Check.mono : ∀ a0 a1 a2 k, LeO (pacelineref08_Check.f k a0 a1 a2) (pacelineref08_Check.f (k + 1) a0 a1 a2) := by
 intro a0 a1 a2 k
 obtain ⟨ih0, ih1⟩ := pacelineref08_Check.mono_l k
 unfold pacelineref08_Check.f
 repeat' first
   | (with_reducible exact ih0 _ _ _ _)
   | (with_reducible exact ih1 _ _ _ _)
   | (with_reducible exact pacelineref05_Check.mono _ _)
   | (with_reducible exact pacelineref08_Fed.mono _ _ _ _ _ _ _ _ _)
   | (with_reducible exact LeO.refl _)
   | (with_reducible exact LeO.none _)
   | (with_reducible refine LeO.ite ?_ ?_)
   | (with_reducible refine LeO.bind ?_ (fun _ => ?_))
   | exact ih0 _ _ _ _
   | exact ih1 _ _ _ _
   | exact pacelineref05_Check.mono _ _
   | exact pacelineref08_Fed.mono _ _ _ _ _ _ _ _ _
   | exact LeO.none _
   | refine LeO.ite ?_ ?_
   | refine LeO.bind ?_ (fun _ => ?_)
def pacelineref08_Check.T9 : Bool × List (List Nat × List Nat) := (true, [([], []), ([0], [0]), ([], []), ([1, 2], [1, 2]), ([3], [3]), ([], []), ([5], [5]), ([6], [6]), ([4, 7], [4, 7]), ([8, 8, 0, 1, 2, 3, 4, 5, 6, 7, 8], [8])])
def pacelineref08_Check.B9 : List Nat := [0, 1, 0, 7, 15, 0, 32, 96, 255, 511]
theorem pacelineref08_Check.tab9 : rtab .any (opsOf Try.f11 9) = pacelineref08_Check.T9 := by kernel_rfl
theorem pacelineref08_Check.bits9 : waitsOk pacelineref08_Check.T9.2 pacelineref08_Check.B9 = true := by kernel_rfl
set_option maxHeartbeats 8000000 in
set_option maxRecDepth 100000 in
theorem pacelineref08_Check.calls (k : Nat) (A0_0 : Option Addr) (c0_0 : Nat) (l0_0 : List Int) (A0_1 : Option Addr) (c0_1 : Nat) (l0_1 : List (S42)) (a0_2 : Int) (r1 : Int) (r2 : Int) (w : World) (hr0_0 : Kd.C (Kd.int .i64) w A0_0 l0_0.length l0_0) (hc0_0 : l0_0.length ≤ c0_0) (hr0_1 : Kd.C k42 w A0_1 l0_1.length l0_1) (hc0_1 : l0_1.length ≤ c0_1) (h : pacelineref08_Check.f k l0_0 l0_1 a0_2 = some (r1, r2)) :
  Calls Try.prog 11 #[.agg #[.slice A0_0 l0_0.length c0_0, .slice A0_1 l0_1.length c0_1, .int .i64 a0_2]] w fun e w' => e = .returned (.tuple #[.int .i64 r1, .int .i64 r2]) ∧ Below w.heap.size w w' := by
 have hu25 := Try.underlying25
 have hu42 := Try.underlying42
 have HR0_0 := Aside0.mk hr0_0
 have HC0_0 := Aside0.mk hc0_0
 clear hr0_0 hc0_0
 have HR0_1 := Aside0.mk hr0_1
 have HC0_1 := Aside0.mk hc0_1
 clear hr0_1 hc0_1
 have HB := Aside0.mk (Below.refl w.heap.size w)
 have H : ((pacelineref05_Check.f k l0_0).bind fun t145 => (if t145 = 0 then (if a0_2 < 0 then (pacelineref08_Check.j0 k true l0_0 l0_1 a0_2) else (if a0_2 > 1099511627776 then (pacelineref08_Check.j0 k true l0_0 l0_1 a0_2) else (if (l0_1.length : Int) < 1 then (pacelineref08_Check.j0 k true l0_0 l0_1 a0_2) else (pacelineref08_Check.j0 k (decide ((l0_1.length : Int) > 8)) l0_0 l0_1 a0_2)))) else (some ((-1), t145)))) = some (r1, r2) := h
 clear h
 replace H := Option.bind_eq_some_iff.mp H
 obtain ⟨t145, A20, H⟩ := H
 replace H : (if t145 = 0 then (if a0_2 < 0 then (pacelineref08_Check.j0 k true l0_0 l0_1 a0_2) else (if a0_2 > 1099511627776 then (pacelineref08_Check.j0 k true l0_0 l0_1 a0_2) else (if (l0_1.length : Int) < 1 then (pacelineref08_Check.j0 k true l0_0 l0_1 a0_2) else (pacelineref08_Check.j0 k (decide ((l0_1.length : Int) > 8)) l0_0 l0_1 a0_2)))) else (some ((-1), t145))) = some (r1, r2) := H
 have A2 := Aside0.mk A20
 clear A20
 by_cases c3 : t145 = 0
 ·rw [if_pos c3] at H
  have c3b0 : (t145 == 0) = true := beq_iff_eq.mpr c3
  have c3b1 : (t145 != 0) = false := bne_eq_false_iff_eq.mpr c3
  clear c3
  have HC4 := Aside0.mk H
  clear H
  go_enter Try.func11, Try.ntmps11
  go_upto_region 4 with (first | ((with_reducible refine gate_dst (N := 1) rfl ?_); (try (refine gate_guard (by rfl) ?_; dsimp only)); refine box_event ?hg (N := 1) ?hd (cs := #[.slice A0_0 l0_0.length c0_0, .slice A0_1 l0_1.length c0_1, .int .i64 a0_2]) (t := 25) ?hr ?_; (case hd => rfl); (case hg => rfl); (case hr => first | (go_simp; done) | (go_simp; rfl)); intro gb144 hg w5 hbox hb; have n0_ := Aside0.mk (below_step (by repeat (first | (with_reducible first | exact HB.out | apply below_alloc | apply pw_below_drewN | apply below_drew1) | exact HB.out)) hb); have n1_ := Aside0.mk (hbox); have n2_ := Aside0.mk ((by rw [hg]; exact (below_size (by repeat (first | (with_reducible first | exact HB.out | apply below_alloc | apply pw_below_drewN | apply below_drew1) | exact HB.out))) : w.heap.size ≤ gb144)); have n3_ := Aside0.mk ((by rw [hg]; exact (below_size (by repeat (first | (with_reducible first | exact HB.out | apply below_alloc | apply pw_below_drewN | apply below_drew1) | exact HB.out))) : w.heap.size ≤ gb144)); clear HB; have HB := n0_; have BK144 := n1_; have GW144 := n2_; have GE144 := n3_; clear n0_ n1_ n2_ n3_; clear hb hbox hg; have hcz6_0 : w5.cell? ⟨gb144, 0, none⟩ = some (.slice A0_0 l0_0.length c0_0) := (blk_cell BK144.out 0).trans rfl; have hcz6_1 : w5.cell? ⟨gb144, 1, none⟩ = some (.slice A0_1 l0_1.length c0_1) := (blk_cell BK144.out 1).trans rfl; have hcz6_2 : w5.cell? ⟨gb144, 2, none⟩ = some (.int .i64 a0_2) := (blk_cell BK144.out 2).trans rfl; have hfz6_0 := blk_frozen BK144.out 0; have hfz6_1 := blk_frozen BK144.out 1; have hfz6_2 := blk_frozen BK144.out 2) | ((with_reducible refine gate_callee (f := 27) rfl ?_); refine goesL_ (some 9) rfl rfl Try.func27 (by kernel_rfl) rfl #[.slice A0_0 l0_0.length c0_0] rfl (by (try simp only [List.map_toArray, List.map_cons, List.map_nil]); first | done | rfl | (simp only [List.length_drop, List.length_take]; rfl)) ?_; (with_reducible refine (pacelineref05_Check.calls k _ _ l0_0 t145 _ ?side1 ?side2 A2.out).mono ?_); (case side1 => repeat (first | exact (Kd.C_below HR0_0.out HB.out) | (with_reducible refine Kd.C_alloc ?_ _) | (with_reducible refine Kd.C_drewN ?_ _) | (with_reducible refine Kd.C_drew ?_))); (case side2 => exact HC0_0.out); rintro e w' ⟨rfl, ⟨nd, rfl⟩⟩; refine ⟨_, rfl, ?_⟩))
  (try simp only [Act.put, List.setIfInBounds_toArray, List.set_cons_zero, List.set_cons_succ])
  go_cut [32] (fun v32 wc => ∃ (kq : Nat) (x32_3 : Bool), v32 = .bool x32_3 ∧ Aside0 (pacelineref08_Check.j0 kq x32_3 l0_0 l0_1 a0_2 = some (r1, r2)) ∧ Aside0 (kq ≤ k) ∧ Aside0 (wc.heap[gb144]? = some (.cells #[(.slice A0_0 l0_0.length c0_0), (.slice A0_1 l0_1.length c0_1), .int .i64 a0_2] 25 (0, 0))) ∧ Aside0 (Below w.heap.size w wc))
  case first =>
   have H := HC4.out
   clear HC4
   by_cases c7 : a0_2 < 0
   ·rw [if_pos c7] at H
    have c7b0 : decide (a0_2 < 0) = true := decide_eq_true c7
    clear c7
    (first | rw [c7b0] | (simp only [i64_w, i32_w]; rw [c7b0]) | skip)
    have H' := Aside0.mk H
    clear H
    have hcz8_0 : w5.cell? ⟨gb144, 0, none⟩ = some (.slice A0_0 l0_0.length c0_0) := (blk_cell BK144.out 0).trans rfl
    have hcz8_1 : w5.cell? ⟨gb144, 1, none⟩ = some (.slice A0_1 l0_1.length c0_1) := (blk_cell BK144.out 1).trans rfl
    have hcz8_2 : w5.cell? ⟨gb144, 2, none⟩ = some (.int .i64 a0_2) := (blk_cell BK144.out 2).trans rfl
    have hfz8_0 := blk_frozen BK144.out 0
    have hfz8_1 := blk_frozen BK144.out 1
    have hfz8_2 := blk_frozen BK144.out 2
    go_wp2
    go_meet
    case rel => exact ⟨_, (true), (by first | rfl | (simp; done) | (simp [*]; done)), H', ⟨by first | omega | exact Nat.le_refl _⟩, ⟨by (with_reducible repeat (first | refine blk_drewN ?_ _ | refine blk_drew ?_ | refine blk_alloc ?_ _)); exact BK144.out⟩, ⟨by repeat (first | (with_reducible first | exact HB.out | apply below_alloc | apply pw_below_drewN | apply below_drew1 | refine below_set ?_ GE144.out) | exact HB.out)⟩⟩
   ·rw [if_neg c7] at H
    have c7b0 : decide (a0_2 < 0) = false := decide_eq_false c7
    clear c7
    (first | rw [c7b0] | (simp only [i64_w, i32_w]; rw [c7b0]) | skip)
    by_cases c9 : a0_2 > 1099511627776
    ·rw [if_pos c9] at H
     have c9b0 : decide (1099511627776 < a0_2) = true := decide_eq_true c9
     clear c9
     have H' := Aside0.mk H
     clear H
     have hcz10_0 : w5.cell? ⟨gb144, 0, none⟩ = some (.slice A0_0 l0_0.length c0_0) := (blk_cell BK144.out 0).trans rfl
     have hcz10_1 : w5.cell? ⟨gb144, 1, none⟩ = some (.slice A0_1 l0_1.length c0_1) := (blk_cell BK144.out 1).trans rfl
     have hcz10_2 : w5.cell? ⟨gb144, 2, none⟩ = some (.int .i64 a0_2) := (blk_cell BK144.out 2).trans rfl
     have hfz10_0 := blk_frozen BK144.out 0
     have hfz10_1 := blk_frozen BK144.out 1
     have hfz10_2 := blk_frozen BK144.out 2
     go_wp2
     go_meet
     case rel => exact ⟨_, (true), (by first | rfl | (simp; done) | (simp [*]; done)), H', ⟨by first | omega | exact Nat.le_refl _⟩, ⟨by (with_reducible repeat (first | refine blk_drewN ?_ _ | refine blk_drew ?_ | refine blk_alloc ?_ _)); exact BK144.out⟩, ⟨by repeat (first | (with_reducible first | exact HB.out | apply below_alloc | apply pw_below_drewN | apply below_drew1 | refine below_set ?_ GE144.out) | exact HB.out)⟩⟩
    ·rw [if_neg c9] at H
     have c9b0 : decide (1099511627776 < a0_2) = false := decide_eq_false c9
     clear c9
     by_cases c11 : (l0_1.length : Int) < 1
     ·rw [if_pos c11] at H
      have c11b0 : decide ((l0_1.length : Int) < 1) = true := decide_eq_true c11
      have c11b1 : decide (l0_1.length < 1) = true := decide_eq_true (by omega)
      clear c11
      have H' := Aside0.mk H
      clear H
      have hcz12_0 : w5.cell? ⟨gb144, 0, none⟩ = some (.slice A0_0 l0_0.length c0_0) := (blk_cell BK144.out 0).trans rfl
      have hcz12_1 : w5.cell? ⟨gb144, 1, none⟩ = some (.slice A0_1 l0_1.length c0_1) := (blk_cell BK144.out 1).trans rfl
      have hcz12_2 : w5.cell? ⟨gb144, 2, none⟩ = some (.int .i64 a0_2) := (blk_cell BK144.out 2).trans rfl
      have hfz12_0 := blk_frozen BK144.out 0
      have hfz12_1 := blk_frozen BK144.out 1
      have hfz12_2 := blk_frozen BK144.out 2
      go_wp2
      go_meet
      case rel => exact ⟨_, (true), (by first | rfl | (simp; done) | (simp [*]; done)), H', ⟨by first | omega | exact Nat.le_refl _⟩, ⟨by (with_reducible repeat (first | refine blk_drewN ?_ _ | refine blk_drew ?_ | refine blk_alloc ?_ _)); exact BK144.out⟩, ⟨by repeat (first | (with_reducible first | exact HB.out | apply below_alloc | apply pw_below_drewN | apply below_drew1 | refine below_set ?_ GE144.out) | exact HB.out)⟩⟩
     ·rw [if_neg c11] at H
      have c11b0 : decide ((l0_1.length : Int) < 1) = false := decide_eq_false c11
      have c11b1 : decide (l0_1.length < 1) = false := decide_eq_false (by omega)
      clear c11
      have H' := Aside0.mk H
      clear H
      have hcz13_0 : w5.cell? ⟨gb144, 0, none⟩ = some (.slice A0_0 l0_0.length c0_0) := (blk_cell BK144.out 0).trans rfl
      have hcz13_1 : w5.cell? ⟨gb144, 1, none⟩ = some (.slice A0_1 l0_1.length c0_1) := (blk_cell BK144.out 1).trans rfl
      have hcz13_2 : w5.cell? ⟨gb144, 2, none⟩ = some (.int .i64 a0_2) := (blk_cell BK144.out 2).trans rfl
      have hfz13_0 := blk_frozen BK144.out 0
      have hfz13_1 := blk_frozen BK144.out 1
      have hfz13_2 := blk_frozen BK144.out 2
      go_wp2
      go_meet
      case rel => exact ⟨_, (decide ((l0_1.length : Int) > 8)), (by first | rfl | (simp; done) | (simp [*]; done)), H', ⟨by first | omega | exact Nat.le_refl _⟩, ⟨by (with_reducible repeat (first | refine blk_drewN ?_ _ | refine blk_drew ?_ | refine blk_alloc ?_ _)); exact BK144.out⟩, ⟨by repeat (first | (with_reducible first | exact HB.out | apply below_alloc | apply pw_below_drewN | apply below_drew1 | refine below_set ?_ GE144.out) | exact HB.out)⟩⟩
  case rest =>
   clear HC4
   try clear c1
   try clear c2
   try clear p2
   try clear c3
   try clear c3b0
   try clear c3b1
   try clear c7
   try clear c7b0
   try clear c9
   try clear c9b0
   try clear c11
   try clear c11b0
   try clear c11b1
   try clear hcz10_0
   try clear hcz10_1
   try clear hcz10_2
   try clear hcz12_0
   try clear hcz12_1
   try clear hcz12_2
   try clear hcz13_0
   try clear hcz13_1
   try clear hcz13_2
   try clear hcz6_0
   try clear hcz6_1
   try clear hcz6_2
   try clear hcz8_0
   try clear hcz8_1
   try clear hcz8_2
   try clear hfz10_0
   try clear hfz10_1
   try clear hfz10_2
   try clear hfz12_0
   try clear hfz12_1
   try clear hfz12_2
   try clear hfz13_0
   try clear hfz13_1
   try clear hfz13_2
   try clear hfz6_0
   try clear hfz6_1
   try clear hfz6_2
   try clear hfz8_0
   try clear hfz8_1
   try clear hfz8_2
   obtain ⟨kq, x32_3, rfl, HA, HJ3, BK144, HB⟩ := hcut
   cases kq with
   | zero => exact absurd HA.out (by simp [pacelineref08_Check.j0])
   | succ kj3 =>
    have H := HA.out
    clear HA
    simp only [pacelineref08_Check.j0] at H
    by_cases c14 : x32_3 = true
    ·subst c14
     have H1 : (some ((-1), 1)) = some (r1, r2) := by rw [if_pos rfl] at H; exact H
     clear H
     have H := H1
     clear H1
     simp only [Option.some.injEq, Prod.mk.injEq] at H
     obtain ⟨rfl, rfl⟩ := H
     go_wp2
     go_ret2
     exact ⟨by first | rfl | (simp [errW_none, errW_some] <;> rfl) | (simp [*, errW_none, errW_some] <;> rfl), by repeat (first | (with_reducible first | exact HB.out | apply below_alloc | apply pw_below_drewN | apply below_drew1 | refine below_set ?_ GE144.out) | exact HB.out)⟩
    ·replace c14 := Bool.eq_false_iff.mpr c14
     subst c14
     have H1 : (pacelineref08_Check.l0 kj3 0 l0_0 l0_1 a0_2) = some (r1, r2) := by rw [if_neg (show ¬ (false = true) by decide)] at H; exact H
     clear H
     have H := H1
     clear H1
     have H' := Aside0.mk H
     clear H
     go_wp2
     go_loopg [5] kj3 (fun kq v5 w' => ∃ (x5_2 : Int), v5 = .int .i64 x5_2 ∧ Aside0 (pacelineref08_Check.l0 kq x5_2 l0_0 l0_1 a0_2 = some (r1, r2)) ∧ Aside0 (kq ≤ kj3) ∧ Aside0 (w'.heap[gb144]? = some (.cells #[(.slice A0_0 l0_0.length c0_0), (.slice A0_1 l0_1.length c0_1), .int .i64 a0_2] 25 (0, 0))) ∧ Aside0 (Below w.heap.size w w'))
     case atStart => exact ⟨(0), (by first | rfl | (simp; done) | (simp [*]; done)), H', ⟨Nat.le_refl _⟩, ⟨by (with_reducible repeat (first | refine blk_drewN ?_ _ | refine blk_drew ?_ | refine blk_alloc ?_ _)); exact BK144.out⟩, ⟨by repeat (first | (with_reducible first | exact HB.out | apply below_alloc | apply pw_below_drewN | apply below_drew1 | refine below_set ?_ GE144.out) | exact HB.out)⟩⟩
     case round =>
      clear H'
      try clear c1
      try clear c2
      try clear p2
      try clear c3
      try clear c3b0
      try clear c3b1
      try clear c7
      try clear c7b0
      try clear c9
      try clear c9b0
      try clear c11
      try clear c11b0
      try clear c11b1
      try clear c14
      try clear hcz10_0
      try clear hcz10_1
      try clear hcz10_2
      try clear hcz12_0
      try clear hcz12_1
      try clear hcz12_2
      try clear hcz13_0
      try clear hcz13_1
      try clear hcz13_2
      try clear hcz6_0
      try clear hcz6_1
      try clear hcz6_2
      try clear hcz8_0
      try clear hcz8_1
      try clear hcz8_2
      try clear hfz10_0
      try clear hfz10_1
      try clear hfz10_2
      try clear hfz12_0
      try clear hfz12_1
      try clear hfz12_2
      try clear hfz13_0
      try clear hfz13_1
      try clear hfz13_2
      try clear hfz6_0
      try clear hfz6_1
      try clear hfz6_2
      try clear hfz8_0
      try clear hfz8_1
      try clear hfz8_2
      try clear p2
      obtain ⟨x5_2, rfl, HA, HK2, BK144, HB⟩ := hrel
      cases gk with
      | zero => exact absurd HA.out (by simp [pacelineref08_Check.l0])
      | succ k2 =>
       have H := HA.out
       clear HA
       simp only [pacelineref08_Check.l0] at H
       by_cases c15 : x5_2 < (l0_1.length : Int)
       ·rw [if_pos c15] at H
        have c15b0 : decide (x5_2 < (l0_1.length : Int)) = true := decide_eq_true c15
        clear c15
        by_cases c16 : 0 ≤ x5_2
        ·rw [if_pos c16] at H
         have c16b0 : decide (0 ≤ x5_2) = true := decide_eq_true c16
         clear c16
         replace H := Option.bind_eq_some_iff.mp H
         obtain ⟨t147, A170, H⟩ := H
         replace H : (if t147 = 0 then (pacelineref08_Check.l0 k2 (wrap64 (x5_2 + 1)) l0_0 l0_1 a0_2) else (some (x5_2, t147))) = some (r1, r2) := H
         have A17 := Aside0.mk A170
         clear A170
         by_cases c18 : t147 = 0
         ·rw [if_pos c18] at H
          have c18b0 : (t147 == 0) = true := beq_iff_eq.mpr c18
          have c18b1 : (t147 != 0) = false := bne_eq_false_iff_eq.mpr c18
          clear c18
          have H' := Aside0.mk H
          clear H
          have hcz19_0 : wr.cell? ⟨gb144, 0, none⟩ = some (.slice A0_0 l0_0.length c0_0) := (blk_cell BK144.out 0).trans rfl
          have hcz19_1 : wr.cell? ⟨gb144, 1, none⟩ = some (.slice A0_1 l0_1.length c0_1) := (blk_cell BK144.out 1).trans rfl
          have hcz19_2 : wr.cell? ⟨gb144, 2, none⟩ = some (.int .i64 a0_2) := (blk_cell BK144.out 2).trans rfl
          have hfz19_0 := blk_frozen BK144.out 0
          have hfz19_1 := blk_frozen BK144.out 1
          have hfz19_2 := blk_frozen BK144.out 2
          try go_wp2
          have n0_ := Aside0.mk (blk_drew BK144.out)
          have n1_ := Aside0.mk (below_drew1 HB.out)
          clear BK144
          clear HB
          have BK144 := n0_
          have HB := n1_
          clear n0_ n1_
          have p146 : 0 ≤ (x5_2 : Int) := of_decide_eq_true (by first | (with_reducible assumption) | assumption)
          have q146 : x5_2 < (l0_1.length : Int) := of_decide_eq_true (by first | (with_reducible assumption) | assumption)
          obtain ⟨ad146, A146_3, c146_3, A146_4, c146_4, A146_5, c146_5, A146_6, c146_6, e146, hx146_0, hx146_1, hx146_2, hx146_3, hx146_4, hx146_5, hx146_6, hl146_3, hi146_3, hl146_4, hi146_4, hl146_5, hi146_5, hl146_6, hi146_6⟩ := at_T42 HR0_1.out x5_2 p146 q146
          have hw146_6 := hx146_6
          have hw146_5 := hx146_5
          have hw146_4 := hx146_4
          have hw146_3 := hx146_3
          have hw146_2 := hx146_2
          have hw146_1 := hx146_1
          have hw146_0 := hx146_0
          cases e146
          replace hx146_0 := (HB.out.cell (World.block_lt_of_cell? w _ hx146_0)).trans hx146_0
          replace hx146_1 := (HB.out.cell (World.block_lt_of_cell? w _ hx146_1)).trans hx146_1
          replace hx146_2 := (HB.out.cell (World.block_lt_of_cell? w _ hx146_2)).trans hx146_2
          replace hx146_3 := (HB.out.cell (World.block_lt_of_cell? w _ hx146_3)).trans hx146_3
          replace hx146_4 := (HB.out.cell (World.block_lt_of_cell? w _ hx146_4)).trans hx146_4
          replace hx146_5 := (HB.out.cell (World.block_lt_of_cell? w _ hx146_5)).trans hx146_5
          replace hx146_6 := (HB.out.cell (World.block_lt_of_cell? w _ hx146_6)).trans hx146_6
          have HR146_3 := Aside0.mk hi146_3
          have HC146_3 := Aside0.mk hl146_3
          clear hi146_3 hl146_3
          have HR146_4 := Aside0.mk hi146_4
          have HC146_4 := Aside0.mk hl146_4
          clear hi146_4 hl146_4
          have HR146_5 := Aside0.mk hi146_5
          have HC146_5 := Aside0.mk hl146_5
          clear hi146_5 hl146_5
          have HR146_6 := Aside0.mk hi146_6
          have HC146_6 := Aside0.mk hl146_6
          clear hi146_6 hl146_6
          replace p146 := eq_true p146
          replace q146 := eq_true q146
          refine start_ (n := 10) (S := fun w' => w'.cell? ⟨gb144, 0, none⟩ = some (.slice A0_0 l0_0.length c0_0) ∧ w'.cell? ⟨gb144, 1, none⟩ = some (.slice (some ad146) l0_1.length c0_1) ∧ w'.cell? ⟨gb144, 2, none⟩ = some (.int .i64 a0_2) ∧ w'.cell? (ad146.add ((x5_2).toNat * 7)) = some (.int .i64 ((rd_T42 l0_1 x5_2).f0)) ∧ w'.cell? ⟨(ad146.add ((x5_2).toNat * 7)).block, (ad146.add ((x5_2).toNat * 7)).off + 1, none⟩ = some (.int .i64 ((rd_T42 l0_1 x5_2).f1)) ∧ w'.cell? ⟨(ad146.add ((x5_2).toNat * 7)).block, (ad146.add ((x5_2).toNat * 7)).off + 2, none⟩ = some (.int .i64 ((rd_T42 l0_1 x5_2).f2)) ∧ w'.cell? ⟨(ad146.add ((x5_2).toNat * 7)).block, (ad146.add ((x5_2).toNat * 7)).off + 3, none⟩ = some (.slice A146_3 ((rd_T42 l0_1 x5_2).f3).length c146_3) ∧ w'.cell? ⟨(ad146.add ((x5_2).toNat * 7)).block, (ad146.add ((x5_2).toNat * 7)).off + 4, none⟩ = some (.slice A146_4 ((rd_T42 l0_1 x5_2).f4).length c146_4) ∧ w'.cell? ⟨(ad146.add ((x5_2).toNat * 7)).block, (ad146.add ((x5_2).toNat * 7)).off + 5, none⟩ = some (.slice A146_5 ((rd_T42 l0_1 x5_2).f5).length c146_5) ∧ w'.cell? ⟨(ad146.add ((x5_2).toNat * 7)).block, (ad146.add ((x5_2).toNat * 7)).off + 6, none⟩ = some (.slice A146_6 ((rd_T42 l0_1 x5_2).f6).length c146_6)) (ds := []) #[false, false, false, false, false, false, false, false, false, false] (by kernel_rfl) rfl rfl ⟨(blk_cell BK144.out 0).trans rfl, (blk_cell BK144.out 1).trans rfl, (blk_cell BK144.out 2).trans rfl, ((HB.out.cell (World.block_lt_of_cell? w _ hw146_0)).trans hw146_0), ((HB.out.cell (World.block_lt_of_cell? w _ hw146_1)).trans hw146_1), ((HB.out.cell (World.block_lt_of_cell? w _ hw146_2)).trans hw146_2), ((HB.out.cell (World.block_lt_of_cell? w _ hw146_3)).trans hw146_3), ((HB.out.cell (World.block_lt_of_cell? w _ hw146_4)).trans hw146_4), ((HB.out.cell (World.block_lt_of_cell? w _ hw146_5)).trans hw146_5), ((HB.out.cell (World.block_lt_of_cell? w _ hw146_6)).trans hw146_6)⟩ (fun hHeld => ?_); refine with_tabW pacelineref08_Check.tab9 pacelineref08_Check.bits9 (fun HT_ HW_ => ?_)
          generalize wr.drew = w20 at BK144 HB HR146_3 HR146_4 HR146_5 HR146_6 hx146_0 hx146_1 hx146_2 hx146_3 hx146_4 hx146_5 hx146_6 hHeld ⊢
          refine pure_ (i := 0) (N := some 40) (v := ?_) (a' := ?_) #[true, false, false, false, false, false, false, false, false, false] rfl rfl (any_of HT_.out (by kernel_rfl)) (fun _ _ _ h => h) (Or.inl ⟨by rfl, ?_⟩) ?_ ?_
          rotate_left
          ·intro w'
           go_simp
           with_reducible rfl
          rotate_left
          ·simp only [Act.put, List.setIfInBounds_toArray, List.set_cons_zero, List.set_cons_succ, i64_w, i32_w]
           rfl
          refine pure_ (i := 2) (N := some 42) (v := ?_) (a' := ?_) #[true, false, true, false, false, false, false, false, false, false] rfl rfl (any_of HT_.out (by kernel_rfl)) (fun _ _ _ h => h) (Or.inl ⟨by rfl, ?_⟩) ?_ ?_
          rotate_left
          ·intro w'
           go_simp
           with_reducible rfl
          rotate_left
          ·simp only [Act.put, List.setIfInBounds_toArray, List.set_cons_zero, List.set_cons_succ, i64_w, i32_w]
           rfl
          refine pure_ (i := 5) (N := some 45) (v := ?_) (a' := ?_) #[true, false, true, false, false, true, false, false, false, false] rfl rfl (any_of HT_.out (by kernel_rfl)) (fun _ _ _ h => h) (Or.inl ⟨by rfl, ?_⟩) ?_ ?_
          rotate_left
          ·intro w'
           go_simp
           with_reducible rfl
          rotate_left
          ·simp only [Act.put, List.setIfInBounds_toArray, List.set_cons_zero, List.set_cons_succ, i64_w, i32_w]
           rfl
          refine take_ (i := 1) (N := some 41) (v := ?_) (a' := ?_) #[true, true, true, false, false, true, false, false, false, false] rfl rfl (take_ofW HT_.out HW_.out (by kernel_rfl)) (fun _ _ _ h => h) (Or.inl ⟨by rfl, ?_⟩) hHeld ?_ ?_
          rotate_left
          ·rintro w' ⟨s0, s1, s2, s3, s4, s5, s6, s7, s8, s9⟩
           go_simp
           with_reducible rfl
          rotate_left
          ·simp only [Act.put, List.setIfInBounds_toArray, List.set_cons_zero, List.set_cons_succ, i64_w, i32_w]
           rfl
          refine pure_ (i := 3) (N := some 43) (v := ?_) (a' := ?_) #[true, true, true, true, false, true, false, false, false, false] rfl rfl (any_of HT_.out (by kernel_rfl)) (fun _ _ _ h => h) (Or.inl ⟨by rfl, ?_⟩) ?_ ?_
          rotate_left
          ·intro w'
           go_simp
           with_reducible rfl
          rotate_left
          ·simp only [Act.put, List.setIfInBounds_toArray, List.set_cons_zero, List.set_cons_succ, i64_w, i32_w]
           rfl
          refine take_ (i := 4) (N := some 44) (v := ?_) (a' := ?_) #[true, true, true, true, true, true, false, false, false, false] rfl rfl (take_ofW HT_.out HW_.out (by kernel_rfl)) (fun _ _ _ h => h) (Or.inl ⟨by rfl, ?_⟩) hHeld ?_ ?_
          rotate_left
          ·rintro w' ⟨s0, s1, s2, s3, s4, s5, s6, s7, s8, s9⟩
           go_simp
           with_reducible rfl
          rotate_left
          ·simp only [Act.put, List.setIfInBounds_toArray, List.set_cons_zero, List.set_cons_succ, i64_w, i32_w]
           rfl
          refine take_ (i := 6) (N := some 46) (v := ?_) (a' := ?_) #[true, true, true, true, true, true, true, false, false, false] rfl rfl (take_ofW HT_.out HW_.out (by kernel_rfl)) (fun _ _ _ h => h) (Or.inl ⟨by rfl, ?_⟩) hHeld ?_ ?_
          rotate_left
          ·rintro w' ⟨s0, s1, s2, s3, s4, s5, s6, s7, s8, s9⟩
           go_simp
           with_reducible rfl
          rotate_left
          ·simp only [Act.put, List.setIfInBounds_toArray, List.set_cons_zero, List.set_cons_succ, i64_w, i32_w]
           rfl
          refine pure_ (i := 7) (N := some 47) (v := ?_) (a' := ?_) #[true, true, true, true, true, true, true, true, false, false] rfl rfl (any_of HT_.out (by kernel_rfl)) (fun _ _ _ h => h) (Or.inl ⟨by rfl, ?_⟩) ?_ ?_
          rotate_left
          ·intro w'
           go_simp
           with_reducible rfl
          rotate_left
          ·simp only [Act.put, List.setIfInBounds_toArray, List.set_cons_zero, List.set_cons_succ, i64_w, i32_w]
           rfl
          refine one_ (i := 8) (N := some 48) #[true, true, true, true, true, true, true, true, true, false] rfl rfl (one_of HT_.out (by kernel_rfl)) (by decide) (fun K hK => ?_)
          refine goes_ Try.func28 (by kernel_rfl) rfl #[.agg #[.int .i64 ((rd_T42 l0_1 x5_2).f0), .int .i64 ((rd_T42 l0_1 x5_2).f1), .int .i64 ((rd_T42 l0_1 x5_2).f2), .slice A146_3 ((rd_T42 l0_1 x5_2).f3).length c146_3, .slice A146_4 ((rd_T42 l0_1 x5_2).f4).length c146_4, .slice A146_5 ((rd_T42 l0_1 x5_2).f5).length c146_5, .slice A146_6 ((rd_T42 l0_1 x5_2).f6).length c146_6], .int .i64 (l0_0.length : Int)] (by rfl) rfl rfl (by (try simp only [List.map_toArray, List.map_cons, List.map_nil]); first | done | rfl | (simp only [List.length_drop, List.length_take]; rfl)) ?_
          with_reducible refine (pacelineref08_Fed.calls k2 ((rd_T42 l0_1 x5_2).f0) ((rd_T42 l0_1 x5_2).f1) ((rd_T42 l0_1 x5_2).f2) _ _ ((rd_T42 l0_1 x5_2).f3) _ _ ((rd_T42 l0_1 x5_2).f4) _ _ ((rd_T42 l0_1 x5_2).f5) _ _ ((rd_T42 l0_1 x5_2).f6) (l0_0.length : Int) t147 _ ?side1 ?side2 ?side3 ?side4 ?side5 ?side6 ?side7 ?side8 A17.out).mono ?_
          (case side1 => repeat (first | exact (Kd.C_below HR146_3.out HB.out) | (with_reducible refine Kd.C_alloc ?_ _) | (with_reducible refine Kd.C_drewN ?_ _) | (with_reducible refine Kd.C_drew ?_)))
          (case side2 => exact HC146_3.out)
          (case side3 => repeat (first | exact (Kd.C_below HR146_4.out HB.out) | (with_reducible refine Kd.C_alloc ?_ _) | (with_reducible refine Kd.C_drewN ?_ _) | (with_reducible refine Kd.C_drew ?_)))
          (case side4 => exact HC146_4.out)
          (case side5 => repeat (first | exact (Kd.C_below HR146_5.out HB.out) | (with_reducible refine Kd.C_alloc ?_ _) | (with_reducible refine Kd.C_drewN ?_ _) | (with_reducible refine Kd.C_drew ?_)))
          (case side6 => exact HC146_5.out)
          (case side7 => repeat (first | exact (Kd.C_below HR146_6.out HB.out) | (with_reducible refine Kd.C_alloc ?_ _) | (with_reducible refine Kd.C_drewN ?_ _) | (with_reducible refine Kd.C_drew ?_)))
          (case side8 => exact HC146_6.out)
          rintro e w21 ⟨rfl, hb⟩
          refine ⟨_, rfl, ?_⟩
          have n0_ := Aside0.mk (blk_below (g := gb144) (o := .cells #[.slice A0_0 l0_0.length c0_0, .slice (some ad146) l0_1.length c0_1, .int .i64 a0_2] 25 (0, 0)) (by (with_reducible repeat (first | refine blk_drewN ?_ _ | refine blk_drew ?_ | refine blk_alloc ?_ _)); exact BK144.out) hb)
          have n1_ := Aside0.mk (below_step (by repeat (first | (with_reducible first | exact HB.out | apply below_alloc | apply pw_below_drewN | apply below_drew1 | refine below_set ?_ GE144.out) | exact HB.out)) hb)
          clear BK144
          clear HB
          have BK144 := n0_
          have HB := n1_
          clear n0_ n1_
          (try clear hb)
          (try clear hb2)
          (try clear hk)
          (try clear hi)
          refine hK.out _ _ ⟨(blk_cell BK144.out 0).trans rfl, (blk_cell BK144.out 1).trans rfl, (blk_cell BK144.out 2).trans rfl, ((HB.out.cell (World.block_lt_of_cell? w _ hw146_0)).trans hw146_0), ((HB.out.cell (World.block_lt_of_cell? w _ hw146_1)).trans hw146_1), ((HB.out.cell (World.block_lt_of_cell? w _ hw146_2)).trans hw146_2), ((HB.out.cell (World.block_lt_of_cell? w _ hw146_3)).trans hw146_3), ((HB.out.cell (World.block_lt_of_cell? w _ hw146_4)).trans hw146_4), ((HB.out.cell (World.block_lt_of_cell? w _ hw146_5)).trans hw146_5), ((HB.out.cell (World.block_lt_of_cell? w _ hw146_6)).trans hw146_6)⟩ (fun hHeld => ?_)
          clear hK K
          refine norm_ (a' := ?_) ?_ ?_
          rotate_left
          ·show Act.put _ (some 48) _ = _
           simp only [Act.put, List.setIfInBounds_toArray, List.set_cons_zero, List.set_cons_succ, i64_w, i32_w]
           rfl
          refine pure_ (i := 9) (N := some 6) (v := ?_) (a' := ?_) #[true, true, true, true, true, true, true, true, true, true] rfl rfl (any_of HT_.out (by kernel_rfl)) (fun _ _ _ h => h) (Or.inl ⟨by rfl, ?_⟩) ?_ ?_
          rotate_left
          ·intro w'
           go_simp
           with_reducible rfl
          rotate_left
          ·simp only [Act.put, List.setIfInBounds_toArray, List.set_cons_zero, List.set_cons_succ, i64_w, i32_w]
           rfl
          refine done_ (done_of HT_.out (by kernel_rfl)) ?_
          try go_wp2
          go_roundg k2
          case measure => have := HJ3.out; have := HK2.out; omega
          case rel => exact ⟨(wrap64 (x5_2 + 1)), (by first | rfl | (simp; done) | (simp [*]; done)), H', ⟨by have := HJ3.out; have := HK2.out; omega⟩, ⟨by (with_reducible repeat (first | refine blk_drewN ?_ _ | refine blk_drew ?_ | refine blk_alloc ?_ _)); exact BK144.out⟩, ⟨by repeat (first | (with_reducible first | exact HB.out | apply below_alloc | apply pw_below_drewN | apply below_drew1 | refine below_set ?_ GE144.out) | exact HB.out)⟩⟩
         ·rw [if_neg c18] at H
          have c18b0 : (t147 == 0) = false := beq_eq_false_iff_ne.mpr c18
          have c18b1 : (t147 != 0) = true := bne_iff_ne.mpr c18
          simp only [Option.some.injEq, Prod.mk.injEq] at H
          obtain ⟨rfl, rfl⟩ := H
          have hcz22_0 : wr.cell? ⟨gb144, 0, none⟩ = some (.slice A0_0 l0_0.length c0_0) := (blk_cell BK144.out 0).trans rfl
          have hcz22_1 : wr.cell? ⟨gb144, 1, none⟩ = some (.slice A0_1 l0_1.length c0_1) := (blk_cell BK144.out 1).trans rfl
          have hcz22_2 : wr.cell? ⟨gb144, 2, none⟩ = some (.int .i64 a0_2) := (blk_cell BK144.out 2).trans rfl
          have hfz22_0 := blk_frozen BK144.out 0
          have hfz22_1 := blk_frozen BK144.out 1
          have hfz22_2 := blk_frozen BK144.out 2
          try go_wp2
          have n0_ := Aside0.mk (blk_drew BK144.out)
          have n1_ := Aside0.mk (below_drew1 HB.out)
          clear BK144
          clear HB
          have BK144 := n0_
          have HB := n1_
          clear n0_ n1_
          have p146 : 0 ≤ (x5_2 : Int) := of_decide_eq_true (by first | (with_reducible assumption) | assumption)
          have q146 : x5_2 < (l0_1.length : Int) := of_decide_eq_true (by first | (with_reducible assumption) | assumption)
          obtain ⟨ad146, A146_3, c146_3, A146_4, c146_4, A146_5, c146_5, A146_6, c146_6, e146, hx146_0, hx146_1, hx146_2, hx146_3, hx146_4, hx146_5, hx146_6, hl146_3, hi146_3, hl146_4, hi146_4, hl146_5, hi146_5, hl146_6, hi146_6⟩ := at_T42 HR0_1.out x5_2 p146 q146
          have hw146_6 := hx146_6
          have hw146_5 := hx146_5
          have hw146_4 := hx146_4
          have hw146_3 := hx146_3
          have hw146_2 := hx146_2
          have hw146_1 := hx146_1
          have hw146_0 := hx146_0
          cases e146
          replace hx146_0 := (HB.out.cell (World.block_lt_of_cell? w _ hx146_0)).trans hx146_0
          replace hx146_1 := (HB.out.cell (World.block_lt_of_cell? w _ hx146_1)).trans hx146_1
          replace hx146_2 := (HB.out.cell (World.block_lt_of_cell? w _ hx146_2)).trans hx146_2
          replace hx146_3 := (HB.out.cell (World.block_lt_of_cell? w _ hx146_3)).trans hx146_3
          replace hx146_4 := (HB.out.cell (World.block_lt_of_cell? w _ hx146_4)).trans hx146_4
          replace hx146_5 := (HB.out.cell (World.block_lt_of_cell? w _ hx146_5)).trans hx146_5
          replace hx146_6 := (HB.out.cell (World.block_lt_of_cell? w _ hx146_6)).trans hx146_6
          have HR146_3 := Aside0.mk hi146_3
          have HC146_3 := Aside0.mk hl146_3
          clear hi146_3 hl146_3
          have HR146_4 := Aside0.mk hi146_4
          have HC146_4 := Aside0.mk hl146_4
          clear hi146_4 hl146_4
          have HR146_5 := Aside0.mk hi146_5
          have HC146_5 := Aside0.mk hl146_5
          clear hi146_5 hl146_5
          have HR146_6 := Aside0.mk hi146_6
          have HC146_6 := Aside0.mk hl146_6
          clear hi146_6 hl146_6
          replace p146 := eq_true p146
          replace q146 := eq_true q146
          refine start_ (n := 10) (S := fun w' => w'.cell? ⟨gb144, 0, none⟩ = some (.slice A0_0 l0_0.length c0_0) ∧ w'.cell? ⟨gb144, 1, none⟩ = some (.slice (some ad146) l0_1.length c0_1) ∧ w'.cell? ⟨gb144, 2, none⟩ = some (.int .i64 a0_2) ∧ w'.cell? (ad146.add ((x5_2).toNat * 7)) = some (.int .i64 ((rd_T42 l0_1 x5_2).f0)) ∧ w'.cell? ⟨(ad146.add ((x5_2).toNat * 7)).block, (ad146.add ((x5_2).toNat * 7)).off + 1, none⟩ = some (.int .i64 ((rd_T42 l0_1 x5_2).f1)) ∧ w'.cell? ⟨(ad146.add ((x5_2).toNat * 7)).block, (ad146.add ((x5_2).toNat * 7)).off + 2, none⟩ = some (.int .i64 ((rd_T42 l0_1 x5_2).f2)) ∧ w'.cell? ⟨(ad146.add ((x5_2).toNat * 7)).block, (ad146.add ((x5_2).toNat * 7)).off + 3, none⟩ = some (.slice A146_3 ((rd_T42 l0_1 x5_2).f3).length c146_3) ∧ w'.cell? ⟨(ad146.add ((x5_2).toNat * 7)).block, (ad146.add ((x5_2).toNat * 7)).off + 4, none⟩ = some (.slice A146_4 ((rd_T42 l0_1 x5_2).f4).length c146_4) ∧ w'.cell? ⟨(ad146.add ((x5_2).toNat * 7)).block, (ad146.add ((x5_2).toNat * 7)).off + 5, none⟩ = some (.slice A146_5 ((rd_T42 l0_1 x5_2).f5).length c146_5) ∧ w'.cell? ⟨(ad146.add ((x5_2).toNat * 7)).block, (ad146.add ((x5_2).toNat * 7)).off + 6, none⟩ = some (.slice A146_6 ((rd_T42 l0_1 x5_2).f6).length c146_6)) (ds := []) #[false, false, false, false, false, false, false, false, false, false] (by kernel_rfl) rfl rfl ⟨(blk_cell BK144.out 0).trans rfl, (blk_cell BK144.out 1).trans rfl, (blk_cell BK144.out 2).trans rfl, ((HB.out.cell (World.block_lt_of_cell? w _ hw146_0)).trans hw146_0), ((HB.out.cell (World.block_lt_of_cell? w _ hw146_1)).trans hw146_1), ((HB.out.cell (World.block_lt_of_cell? w _ hw146_2)).trans hw146_2), ((HB.out.cell (World.block_lt_of_cell? w _ hw146_3)).trans hw146_3), ((HB.out.cell (World.block_lt_of_cell? w _ hw146_4)).trans hw146_4), ((HB.out.cell (World.block_lt_of_cell? w _ hw146_5)).trans hw146_5), ((HB.out.cell (World.block_lt_of_cell? w _ hw146_6)).trans hw146_6)⟩ (fun hHeld => ?_); refine with_tabW pacelineref08_Check.tab9 pacelineref08_Check.bits9 (fun HT_ HW_ => ?_)
          generalize wr.drew = w23 at BK144 HB HR146_3 HR146_4 HR146_5 HR146_6 hx146_0 hx146_1 hx146_2 hx146_3 hx146_4 hx146_5 hx146_6 hHeld ⊢
          refine pure_ (i := 0) (N := some 40) (v := ?_) (a' := ?_) #[true, false, false, false, false, false, false, false, false, false] rfl rfl (any_of HT_.out (by kernel_rfl)) (fun _ _ _ h => h) (Or.inl ⟨by rfl, ?_⟩) ?_ ?_
          rotate_left
          ·intro w'
           go_simp
           with_reducible rfl
          rotate_left
          ·simp only [Act.put, List.setIfInBounds_toArray, List.set_cons_zero, List.set_cons_succ, i64_w, i32_w]
           rfl
          refine pure_ (i := 2) (N := some 42) (v := ?_) (a' := ?_) #[true, false, true, false, false, false, false, false, false, false] rfl rfl (any_of HT_.out (by kernel_rfl)) (fun _ _ _ h => h) (Or.inl ⟨by rfl, ?_⟩) ?_ ?_
          rotate_left
          ·intro w'
           go_simp
           with_reducible rfl
          rotate_left
          ·simp only [Act.put, List.setIfInBounds_toArray, List.set_cons_zero, List.set_cons_succ, i64_w, i32_w]
           rfl
          refine pure_ (i := 5) (N := some 45) (v := ?_) (a' := ?_) #[true, false, true, false, false, true, false, false, false, false] rfl rfl (any_of HT_.out (by kernel_rfl)) (fun _ _ _ h => h) (Or.inl ⟨by rfl, ?_⟩) ?_ ?_
          rotate_left
          ·intro w'
           go_simp
           with_reducible rfl
          rotate_left
          ·simp only [Act.put, List.setIfInBounds_toArray, List.set_cons_zero, List.set_cons_succ, i64_w, i32_w]
           rfl
          refine take_ (i := 1) (N := some 41) (v := ?_) (a' := ?_) #[true, true, true, false, false, true, false, false, false, false] rfl rfl (take_ofW HT_.out HW_.out (by kernel_rfl)) (fun _ _ _ h => h) (Or.inl ⟨by rfl, ?_⟩) hHeld ?_ ?_
          rotate_left
          ·rintro w' ⟨s0, s1, s2, s3, s4, s5, s6, s7, s8, s9⟩
           go_simp
           with_reducible rfl
          rotate_left
          ·simp only [Act.put, List.setIfInBounds_toArray, List.set_cons_zero, List.set_cons_succ, i64_w, i32_w]
           rfl
          refine pure_ (i := 3) (N := some 43) (v := ?_) (a' := ?_) #[true, true, true, true, false, true, false, false, false, false] rfl rfl (any_of HT_.out (by kernel_rfl)) (fun _ _ _ h => h) (Or.inl ⟨by rfl, ?_⟩) ?_ ?_
          rotate_left
          ·intro w'
           go_simp
           with_reducible rfl
          rotate_left
          ·simp only [Act.put, List.setIfInBounds_toArray, List.set_cons_zero, List.set_cons_succ, i64_w, i32_w]
           rfl
          refine take_ (i := 4) (N := some 44) (v := ?_) (a' := ?_) #[true, true, true, true, true, true, false, false, false, false] rfl rfl (take_ofW HT_.out HW_.out (by kernel_rfl)) (fun _ _ _ h => h) (Or.inl ⟨by rfl, ?_⟩) hHeld ?_ ?_
          rotate_left
          ·rintro w' ⟨s0, s1, s2, s3, s4, s5, s6, s7, s8, s9⟩
           go_simp
           with_reducible rfl
          rotate_left
          ·simp only [Act.put, List.setIfInBounds_toArray, List.set_cons_zero, List.set_cons_succ, i64_w, i32_w]
           rfl
          refine take_ (i := 6) (N := some 46) (v := ?_) (a' := ?_) #[true, true, true, true, true, true, true, false, false, false] rfl rfl (take_ofW HT_.out HW_.out (by kernel_rfl)) (fun _ _ _ h => h) (Or.inl ⟨by rfl, ?_⟩) hHeld ?_ ?_
          rotate_left
          ·rintro w' ⟨s0, s1, s2, s3, s4, s5, s6, s7, s8, s9⟩
           go_simp
           with_reducible rfl
          rotate_left
          ·simp only [Act.put, List.setIfInBounds_toArray, List.set_cons_zero, List.set_cons_succ, i64_w, i32_w]
           rfl
          refine pure_ (i := 7) (N := some 47) (v := ?_) (a' := ?_) #[true, true, true, true, true, true, true, true, false, false] rfl rfl (any_of HT_.out (by kernel_rfl)) (fun _ _ _ h => h) (Or.inl ⟨by rfl, ?_⟩) ?_ ?_
          rotate_left
          ·intro w'
           go_simp
           with_reducible rfl
          rotate_left
          ·simp only [Act.put, List.setIfInBounds_toArray, List.set_cons_zero, List.set_cons_succ, i64_w, i32_w]
           rfl
          refine one_ (i := 8) (N := some 48) #[true, true, true, true, true, true, true, true, true, false] rfl rfl (one_of HT_.out (by kernel_rfl)) (by decide) (fun K hK => ?_)
          refine goes_ Try.func28 (by kernel_rfl) rfl #[.agg #[.int .i64 ((rd_T42 l0_1 x5_2).f0), .int .i64 ((rd_T42 l0_1 x5_2).f1), .int .i64 ((rd_T42 l0_1 x5_2).f2), .slice A146_3 ((rd_T42 l0_1 x5_2).f3).length c146_3, .slice A146_4 ((rd_T42 l0_1 x5_2).f4).length c146_4, .slice A146_5 ((rd_T42 l0_1 x5_2).f5).length c146_5, .slice A146_6 ((rd_T42 l0_1 x5_2).f6).length c146_6], .int .i64 (l0_0.length : Int)] (by rfl) rfl rfl (by (try simp only [List.map_toArray, List.map_cons, List.map_nil]); first | done | rfl | (simp only [List.length_drop, List.length_take]; rfl)) ?_
          with_reducible refine (pacelineref08_Fed.calls k2 ((rd_T42 l0_1 x5_2).f0) ((rd_T42 l0_1 x5_2).f1) ((rd_T42 l0_1 x5_2).f2) _ _ ((rd_T42 l0_1 x5_2).f3) _ _ ((rd_T42 l0_1 x5_2).f4) _ _ ((rd_T42 l0_1 x5_2).f5) _ _ ((rd_T42 l0_1 x5_2).f6) (l0_0.length : Int) t147 _ ?side1 ?side2 ?side3 ?side4 ?side5 ?side6 ?side7 ?side8 A17.out).mono ?_
          (case side1 => repeat (first | exact (Kd.C_below HR146_3.out HB.out) | (with_reducible refine Kd.C_alloc ?_ _) | (with_reducible refine Kd.C_drewN ?_ _) | (with_reducible refine Kd.C_drew ?_)))
          (case side2 => exact HC146_3.out)
          (case side3 => repeat (first | exact (Kd.C_below HR146_4.out HB.out) | (with_reducible refine Kd.C_alloc ?_ _) | (with_reducible refine Kd.C_drewN ?_ _) | (with_reducible refine Kd.C_drew ?_)))
          (case side4 => exact HC146_4.out)
          (case side5 => repeat (first | exact (Kd.C_below HR146_5.out HB.out) | (with_reducible refine Kd.C_alloc ?_ _) | (with_reducible refine Kd.C_drewN ?_ _) | (with_reducible refine Kd.C_drew ?_)))
          (case side6 => exact HC146_5.out)
          (case side7 => repeat (first | exact (Kd.C_below HR146_6.out HB.out) | (with_reducible refine Kd.C_alloc ?_ _) | (with_reducible refine Kd.C_drewN ?_ _) | (with_reducible refine Kd.C_drew ?_)))
          (case side8 => exact HC146_6.out)
          rintro e w24 ⟨rfl, hb⟩
          refine ⟨_, rfl, ?_⟩
          have n0_ := Aside0.mk (blk_below (g := gb144) (o := .cells #[.slice A0_0 l0_0.length c0_0, .slice (some ad146) l0_1.length c0_1, .int .i64 a0_2] 25 (0, 0)) (by (with_reducible repeat (first | refine blk_drewN ?_ _ | refine blk_drew ?_ | refine blk_alloc ?_ _)); exact BK144.out) hb)
          have n1_ := Aside0.mk (below_step (by repeat (first | (with_reducible first | exact HB.out | apply below_alloc | apply pw_below_drewN | apply below_drew1 | refine below_set ?_ GE144.out) | exact HB.out)) hb)
          clear BK144
          clear HB
          have BK144 := n0_
          have HB := n1_
          clear n0_ n1_
          (try clear hb)
          (try clear hb2)
          (try clear hk)
          (try clear hi)
          refine hK.out _ _ ⟨(blk_cell BK144.out 0).trans rfl, (blk_cell BK144.out 1).trans rfl, (blk_cell BK144.out 2).trans rfl, ((HB.out.cell (World.block_lt_of_cell? w _ hw146_0)).trans hw146_0), ((HB.out.cell (World.block_lt_of_cell? w _ hw146_1)).trans hw146_1), ((HB.out.cell (World.block_lt_of_cell? w _ hw146_2)).trans hw146_2), ((HB.out.cell (World.block_lt_of_cell? w _ hw146_3)).trans hw146_3), ((HB.out.cell (World.block_lt_of_cell? w _ hw146_4)).trans hw146_4), ((HB.out.cell (World.block_lt_of_cell? w _ hw146_5)).trans hw146_5), ((HB.out.cell (World.block_lt_of_cell? w _ hw146_6)).trans hw146_6)⟩ (fun hHeld => ?_)
          clear hK K
          refine norm_ (a' := ?_) ?_ ?_
          rotate_left
          ·show Act.put _ (some 48) _ = _
           simp only [Act.put, List.setIfInBounds_toArray, List.set_cons_zero, List.set_cons_succ, i64_w, i32_w]
           rfl
          refine pure_ (i := 9) (N := some 6) (v := ?_) (a' := ?_) #[true, true, true, true, true, true, true, true, true, true] rfl rfl (any_of HT_.out (by kernel_rfl)) (fun _ _ _ h => h) (Or.inl ⟨by rfl, ?_⟩) ?_ ?_
          rotate_left
          ·intro w'
           go_simp
           with_reducible rfl
          rotate_left
          ·simp only [Act.put, List.setIfInBounds_toArray, List.set_cons_zero, List.set_cons_succ, i64_w, i32_w]
           rfl
          refine done_ (done_of HT_.out (by kernel_rfl)) ?_
          try go_wp2
          go_ret2
          exact ⟨by first | rfl | (simp [errW_none, errW_some] <;> rfl) | (simp [*, errW_none, errW_some] <;> rfl), by repeat (first | (with_reducible first | exact HB.out | apply below_alloc | apply pw_below_drewN | apply below_drew1 | refine below_set ?_ GE144.out) | exact HB.out)⟩
        ·rw [if_neg c16] at H
         exact absurd H (by simp)
       ·rw [if_neg c15] at H
        have c15b0 : decide (x5_2 < (l0_1.length : Int)) = false := decide_eq_false c15
        clear c15
        simp only [Option.some.injEq, Prod.mk.injEq] at H
        obtain ⟨rfl, rfl⟩ := H
        have hcz25_0 : wr.cell? ⟨gb144, 0, none⟩ = some (.slice A0_0 l0_0.length c0_0) := (blk_cell BK144.out 0).trans rfl
        have hcz25_1 : wr.cell? ⟨gb144, 1, none⟩ = some (.slice A0_1 l0_1.length c0_1) := (blk_cell BK144.out 1).trans rfl
        have hcz25_2 : wr.cell? ⟨gb144, 2, none⟩ = some (.int .i64 a0_2) := (blk_cell BK144.out 2).trans rfl
        have hfz25_0 := blk_frozen BK144.out 0
        have hfz25_1 := blk_frozen BK144.out 1
        have hfz25_2 := blk_frozen BK144.out 2
        go_wp2
        go_ret2
        exact ⟨by first | rfl | (simp [errW_none, errW_some] <;> rfl) | (simp [*, errW_none, errW_some] <;> rfl), by repeat (first | (with_reducible first | exact HB.out | apply below_alloc | apply pw_below_drewN | apply below_drew1 | refine below_set ?_ GE144.out) | exact HB.out)⟩
 ·rw [if_neg c3] at H
  have c3b0 : (t145 == 0) = false := beq_eq_false_iff_ne.mpr c3
  have c3b1 : (t145 != 0) = true := bne_iff_ne.mpr c3
  simp only [Option.some.injEq, Prod.mk.injEq] at H
  obtain ⟨rfl, rfl⟩ := H
  go_enter Try.func11, Try.ntmps11
  go_wp2_with (first | ((with_reducible refine gate_dst (N := 1) rfl ?_); (try (refine gate_guard (by rfl) ?_; dsimp only)); refine box_event ?hg (N := 1) ?hd (cs := #[.slice A0_0 l0_0.length c0_0, .slice A0_1 l0_1.length c0_1, .int .i64 a0_2]) (t := 25) ?hr ?_; (case hd => rfl); (case hg => rfl); (case hr => first | (go_simp; done) | (go_simp; rfl)); intro gb144 hg w26 hbox hb; have n0_ := Aside0.mk (below_step (by repeat (first | (with_reducible first | exact HB.out | apply below_alloc | apply pw_below_drewN | apply below_drew1) | exact HB.out)) hb); have n1_ := Aside0.mk (hbox); have n2_ := Aside0.mk ((by rw [hg]; exact (below_size (by repeat (first | (with_reducible first | exact HB.out | apply below_alloc | apply pw_below_drewN | apply below_drew1) | exact HB.out))) : w.heap.size ≤ gb144)); have n3_ := Aside0.mk ((by rw [hg]; exact (below_size (by repeat (first | (with_reducible first | exact HB.out | apply below_alloc | apply pw_below_drewN | apply below_drew1) | exact HB.out))) : w.heap.size ≤ gb144)); clear HB; have HB := n0_; have BK144 := n1_; have GW144 := n2_; have GE144 := n3_; clear n0_ n1_ n2_ n3_; clear hb hbox hg; have hcz27_0 : w26.cell? ⟨gb144, 0, none⟩ = some (.slice A0_0 l0_0.length c0_0) := (blk_cell BK144.out 0).trans rfl; have hcz27_1 : w26.cell? ⟨gb144, 1, none⟩ = some (.slice A0_1 l0_1.length c0_1) := (blk_cell BK144.out 1).trans rfl; have hcz27_2 : w26.cell? ⟨gb144, 2, none⟩ = some (.int .i64 a0_2) := (blk_cell BK144.out 2).trans rfl; have hfz27_0 := blk_frozen BK144.out 0; have hfz27_1 := blk_frozen BK144.out 1; have hfz27_2 := blk_frozen BK144.out 2) | ((with_reducible refine gate_callee (f := 27) rfl ?_); refine goesL_ (some 9) rfl rfl Try.func27 (by kernel_rfl) rfl #[.slice A0_0 l0_0.length c0_0] rfl (by (try simp only [List.map_toArray, List.map_cons, List.map_nil]); first | done | rfl | (simp only [List.length_drop, List.length_take]; rfl)) ?_; (with_reducible refine (pacelineref05_Check.calls k _ _ l0_0 t145 _ ?side1 ?side2 A2.out).mono ?_); (case side1 => repeat (first | exact (Kd.C_below HR0_0.out HB.out) | (with_reducible refine Kd.C_alloc ?_ _) | (with_reducible refine Kd.C_drewN ?_ _) | (with_reducible refine Kd.C_drew ?_))); (case side2 => exact HC0_0.out); rintro e w' ⟨rfl, ⟨nd, rfl⟩⟩; refine ⟨_, rfl, ?_⟩))
  go_ret2
  exact ⟨by first | rfl | (simp [errW_none, errW_some] <;> rfl) | (simp [*, errW_none, errW_some] <;> rfl), by repeat (first | (with_reducible first | exact HB.out | apply below_alloc | apply pw_below_drewN | apply below_drew1 | refine below_set ?_ GE144.out) | exact HB.out)⟩

/-! ### config_Routes: function 13 (by hand) -/
section
open Go.Proofs.YtdlagficilbbbaaU Go.Proofs.YtdlagficilbbbaaI
def config_Routes.isA (ps : List Int) (c : Int) (s : Int) : Bool := decide (s ∈ upL ps c)
def config_Routes.hears (ps : List Int) (c : Int) (x : S42) : Bool := x.f5.any (config_Routes.isA ps c)
def config_Routes.to (ps : List Int) (f c : Int) (l : List S42) : Nat → List Int
  | 0 => []
  | g + 1 => if (!((g : Int) == f) && config_Routes.hears ps c (l.getD g z42)) = true then config_Routes.to ps f c l g ++ [(g : Int)] else config_Routes.to ps f c l g
theorem config_Routes.to_length (ps : List Int) (f c : Int) (l : List S42) (n : Nat) : (config_Routes.to ps f c l n).length ≤ n := by
  induction n with
  | zero => exact Nat.le_refl _
  | succ n ih =>
    rw [config_Routes.to]
    split
    · rw [List.length_append]
      simp
      exact ih
    · omega
def config_Routes.f (l0 : List Int) (l1 : List S42) (e : Int) (f c : Int) : Option (List Int) := if l1.length ≤ 1000000 then some (config_Routes.to l0 f c l1 l1.length) else none
set_option maxRecDepth 100000 in
set_option maxHeartbeats 1000000 in
theorem config_Routes.pred (A0 : Option Addr) (c0 : Nat) (l0 : List Int) (bW bC : Nat) (v1 v2 : Value) (c : Int) (w : World) (hW : w.heap[bW]? = some (.cells #[.slice A0 l0.length c0, v1, v2] 25 (0, 0))) (hC : w.heap[bC]? = some (.cells #[.int .i64 c] 3 (0, 0)))
    (hr0 : Kd.C (Kd.int .i64) w A0 l0.length l0) (hc0 : l0.length ≤ c0) (l : List Int) : PredI Try.prog 30 #[.pointer (some ⟨bW, 0, none⟩), .pointer (some ⟨bC, 0, none⟩)] (config_Routes.isA l0 c) l w := by
  intro W x hb hx
  have q0 : W.cell? ⟨bW, 0, none⟩ = some (.slice A0 l0.length c0) := (blk_cell (blk_below hW hb) 0).trans rfl
  have q1 : W.cell? ⟨bC, 0, none⟩ = some (.int .i64 c) := (blk_cell (blk_below hC hb) 0).trans rfl
  have CI := Aside0.mk (tree_IsA.calls A0 c0 l0 c x _ W (Kd.C_below hr0 hb) hc0 rfl)
  clear hW hC hr0 hc0 hx hb
  go_enter Try.func30, Try.ntmps30
  go_wp2_with (go_at_call 31; refine CI.out.mono ?_; rintro e w' ⟨rfl, hb'⟩)
  go_ret
  exact ⟨rfl, hb'⟩
theorem config_Routes.below2 (w : World) (o1 o2 : Obj) : Below w.heap.size w ((w.alloc o1).alloc o2) := ((Below.refl _ w).alloc (Nat.le_refl _) o1).alloc (by simp) o2
set_option maxRecDepth 100000 in
set_option maxHeartbeats 4000000 in
theorem config_Routes.walk (A0 : Option Addr) (c0 : Nat) (l0 : List Int) (A1 : Option Addr) (c1 : Nat) (l1 : List S42) (a0 a1 a2 : Int) (w : World) (hr0 : Kd.C (Kd.int .i64) w A0 l0.length l0) (hc0 : l0.length ≤ c0) (hr1 : Kd.C k42 w A1 l1.length l1) (hn : l1.length ≤ 1000000) :
    Calls Try.prog 13 #[.agg #[.slice A0 l0.length c0, .slice A1 l1.length c1, .int .i64 a0], .int .i64 a1, .int .i64 a2] w fun e w' => ∃ v0_ : Value, e = .returned (v0_) ∧ Kd.R (Kd.int .i64) 3 w' w.heap.size (fun _ => True) v0_ (config_Routes.to l0 a1 a2 l1 l1.length) ∧ Below w.heap.size w w' := by
  have HR0 := Aside0.mk hr0
  have HC0 := Aside0.mk hc0
  have HR1 := Aside0.mk hr1
  clear hr0 hc0 hr1
  have hmf : ∀ (fn : Fn) (first cap : Array Value) (w : World), (Instr.makeFunc fn first cap).run Try.prog w = .ok (.func fn first cap) w := fun _ _ _ _ => rfl
  have BW2 := Aside0.mk (config_Routes.below2 w (.cells #[.slice A0 l0.length c0, .slice A1 l1.length c1, .int .i64 a0] 25 (0, 0)) (.cells #[.int .i64 a2] 3 (0, 0)))
  have BKW := Aside0.mk (blk_alloc (blk_new w (.cells #[.slice A0 l0.length c0, .slice A1 l1.length c1, .int .i64 a0] 25 (0, 0))) (.cells #[.int .i64 a2] 3 (0, 0)))
  have BKC : Aside0 (((w.alloc (.cells #[.slice A0 l0.length c0, .slice A1 l1.length c1, .int .i64 a0] 25 (0, 0))).alloc (.cells #[.int .i64 a2] 3 (0, 0))).heap[w.heap.size + 1]? = some (.cells #[.int .i64 a2] 3 (0, 0))) := ⟨by simpa using blk_new (w.alloc (.cells #[.slice A0 l0.length c0, .slice A1 l1.length c1, .int .i64 a0] 25 (0, 0))) (.cells #[.int .i64 a2] 3 (0, 0))⟩
  have HN := Aside0.mk hn
  have hmax : l1.length ≤ 9223372036854775807 := by omega
  go_enter Try.func13, Try.ntmps13
  go_wp2
  generalize hw2 : (w.alloc (.cells #[.slice A0 l0.length c0, .slice A1 l1.length c1, .int .i64 a0] 25 (0, 0))).alloc (.cells #[.int .i64 a2] 3 (0, 0)) = w2 at *
  clear hw2
  go_loopg [7, 13] l1.length (fun gg v7 s13 wr => ∃ kk : Nat, kk ≤ l1.length ∧ l1.length - kk ≤ gg ∧ s13 = .int .i64 kk ∧ Aside0 (Kd.R (Kd.int .i64) 3 wr w2.heap.size (fun _ => True) v7 (config_Routes.to l0 a1 a2 l1 kk)) ∧ Aside0 (Below w2.heap.size w2 wr))
  case atStart => exact ⟨0, Nat.zero_le _, by omega, rfl, ⟨Kd.R_nil _ _ _ _ _⟩, ⟨Below.refl _ w2⟩⟩
  case round =>
    obtain ⟨kk, hkk, hg, rfl, RO, BK⟩ := hrel
    by_cases hlt : kk < l1.length
    · have hltz : (kk : Int) < (l1.length : Int) := by omega
      have hk0 : (0 : Int) ≤ (kk : Int) := Int.natCast_nonneg kk
      have BW := Aside0.mk (below_step BW2.out BK.out)
      obtain ⟨x, hx⟩ : ∃ x, l1[kk]? = some x := ⟨_, List.getElem?_eq_getElem hlt⟩
      obtain ⟨ad, cs, rfl, hcl, hK, hcell⟩ := cells_at (Kd.C_below HR1.out BW.out) hx
      obtain ⟨A3, c3, A4, c4, A5, c5, A6, c6, rfl, l3, g3, l4, g4, l5, g5, l6, g6⟩ := k42_open hK
      have q0 : wr.cell? (ad.add (kk * 7)) = some (.int .i64 x.f0) := by exact hcell 0 _ rfl
      have q1 : wr.cell? ⟨(ad.add (kk * 7)).block, (ad.add (kk * 7)).off + 1, none⟩ = some (.int .i64 x.f1) := by have := hcell 1 _ rfl; rwa [add_field _ _ 1 (by omega)] at this
      have q2 : wr.cell? ⟨(ad.add (kk * 7)).block, (ad.add (kk * 7)).off + 2, none⟩ = some (.int .i64 x.f2) := by have := hcell 2 _ rfl; rwa [add_field _ _ 2 (by omega)] at this
      have q3 : wr.cell? ⟨(ad.add (kk * 7)).block, (ad.add (kk * 7)).off + 3, none⟩ = some (.slice A3 x.f3.length c3) := by have := hcell 3 _ rfl; rwa [add_field _ _ 3 (by omega)] at this
      have q4 : wr.cell? ⟨(ad.add (kk * 7)).block, (ad.add (kk * 7)).off + 4, none⟩ = some (.slice A4 x.f4.length c4) := by have := hcell 4 _ rfl; rwa [add_field _ _ 4 (by omega)] at this
      have q5 : wr.cell? ⟨(ad.add (kk * 7)).block, (ad.add (kk * 7)).off + 5, none⟩ = some (.slice A5 x.f5.length c5) := by have := hcell 5 _ rfl; rwa [add_field _ _ 5 (by omega)] at this
      have q6 : wr.cell? ⟨(ad.add (kk * 7)).block, (ad.add (kk * 7)).off + 6, none⟩ = some (.slice A6 x.f6.length c6) := by have := hcell 6 _ rfl; rwa [add_field _ _ 6 (by omega)] at this
      have hxd : l1.getD kk z42 = x := by rw [List.getD_eq_getElem?_getD, hx]; rfl
      have hst : config_Routes.to l0 a1 a2 l1 (kk + 1) = if (!((kk : Int) == a1) && config_Routes.hears l0 a2 (l1.getD kk z42)) = true then config_Routes.to l0 a1 a2 l1 kk ++ [(kk : Int)] else config_Routes.to l0 a1 a2 l1 kk := rfl
      rw [hxd] at hst
      have HG := Aside0.mk hg
      have G5 := Aside0.mk g5
      have HL := Aside0.mk (config_Routes.to_length l0 a1 a2 l1 kk)
      have HKK := Aside0.mk hkk
      clear hcell hK hcl hx hxd hg l3 g3 l4 g4 l5 g5 l6 g6 hkk
      have CI := Aside0.mk (fun (W : World) (hW : Below wr.heap.size wr W) => contains_int (config_Routes.isA l0 a2) 30 #[.pointer (some ⟨w.heap.size, 0, none⟩), .pointer (some ⟨w.heap.size + 1, 0, none⟩)] (enters_of Try.func30 (by kernel_rfl) rfl) A5 c5 x.f5 W (Kd.C_below G5.out hW)
        (config_Routes.pred A0 c0 l0 w.heap.size (w.heap.size + 1) _ _ a2 W (blk_below BKW.out (below_step BK.out hW)) (blk_below BKC.out (below_step BK.out hW)) (Kd.C_below HR0.out (below_step BW.out hW)) HC0.out x.f5))
      by_cases hne : (kk : Int) = a1
      · have HST : Aside0 (config_Routes.to l0 a1 a2 l1 (kk + 1) = config_Routes.to l0 a1 a2 l1 kk) := ⟨by rw [hst, hne]; simp⟩
        clear hst
        have e1 : ((kk : Int) == a1) = true := by simp [hne]
        have e2 : ((kk : Int) != a1) = false := by simp [hne]
        clear hne
        go_wp2
        go_roundg (l1.length - (kk + 1))
        case measure => have := HG.out; omega
        case rel => exact ⟨kk + 1, by omega, by omega, by go_num, ⟨by rw [HST.out]; exact Kd.R_alloc RO.out _⟩, ⟨below_alloc BK.out _⟩⟩
      · have e1 : ((kk : Int) == a1) = false := by simp [hne]
        have e2 : ((kk : Int) != a1) = true := by simp [hne]
        cases hh : x.f5.any (config_Routes.isA l0 a2) with
        | false =>
          have HST : Aside0 (config_Routes.to l0 a1 a2 l1 (kk + 1) = config_Routes.to l0 a1 a2 l1 kk) := ⟨by rw [hst]; unfold config_Routes.hears; rw [hh]; simp⟩
          rw [hh] at CI
          clear hst hh hne
          go_wp2_with (go_at_call 29; refine (CI.out _ ((Below.refl _ wr).alloc (Nat.le_refl _) _)).mono ?_; rintro e w3 ⟨rfl, hb3⟩; have HB3 := Aside0.mk hb3; clear hb3)
          go_roundg (l1.length - (kk + 1))
          case measure => have := HG.out; omega
          case rel => exact ⟨kk + 1, by omega, by omega, by go_num, ⟨by rw [HST.out]; exact Kd.R_below (Kd.R_alloc RO.out _) HB3.out⟩, ⟨below_step (below_alloc BK.out _) HB3.out⟩⟩
        | true =>
          have HST : Aside0 (config_Routes.to l0 a1 a2 l1 (kk + 1) = config_Routes.to l0 a1 a2 l1 kk ++ [(kk : Int)]) := ⟨by rw [hst, e1]; unfold config_Routes.hears; rw [hh]; simp⟩
          rw [hh] at CI
          clear hst hh hne
          go_wp2_with (first
            | (go_at_call 29; refine (CI.out _ ((Below.refl _ wr).alloc (Nat.le_refl _) _)).mono ?_; rintro e w3 ⟨rfl, hb3⟩; have RO3 := Aside0.mk (Kd.R_below (Kd.R_alloc RO.out _) hb3); have BK3 := Aside0.mk (below_step (below_alloc BK.out _) hb3); clear hb3)
            | (at_builtin; refine Kd.R_append (Kd.int .i64) (w0 := w2) w2.heap.size rfl (.tmp 27) (.tmp 29) 22 3 (.int .i64 0) 8 rfl Try.underlying22 info3 rfl (by decide) (by omega) _ (config_Routes.to l0 a1 a2 l1 kk) (kk : Int) [.int .i64 (kk : Int)] (fun _ => True) (fun _ => False) rfl rfl ?aP (fun _ hk => hk.elim) ?aF ?aO ?aB ?aS ?aL ?_; (case aP => exact rfl); (case aB => exact BK3.out); (case aF => exact (fun _ _ => trivial)); (case aO => exact RO3.out); (case aS => exact BK3.out.size); (case aL => have := HL.out; have := HKK.out; have := HN.out; omega); intro v7' w4 ho hb hg hat; have RO4 := Aside0.mk ho; have BK4 := Aside0.mk hb; clear ho hb hg hat))
          go_roundg (l1.length - (kk + 1))
          case measure => have := HG.out; omega
          case rel => exact ⟨kk + 1, by omega, by omega, by go_num, ⟨by rw [HST.out]; exact RO4.out⟩, ⟨BK4.out⟩⟩
    · have hltz : ¬ (kk : Int) < (l1.length : Int) := by omega
      obtain rfl : kk = l1.length := by omega
      go_wp2
      go_ret
      exact ⟨_, rfl, Kd.R_lower RO.out BW2.out.size, below_step BW2.out BK.out⟩
theorem config_Routes.calls (A0 : Option Addr) (c0 : Nat) (l0 : List Int) (A1 : Option Addr) (c1 : Nat) (l1 : List S42) (a0 a1 a2 : Int) (r : List Int) (w : World) (hr0 : Kd.C (Kd.int .i64) w A0 l0.length l0) (hc0 : l0.length ≤ c0) (hr1 : Kd.C k42 w A1 l1.length l1) (hc1 : l1.length ≤ c1) (h : config_Routes.f l0 l1 a0 a1 a2 = some r) :
    Calls Try.prog 13 #[.agg #[.slice A0 l0.length c0, .slice A1 l1.length c1, .int .i64 a0], .int .i64 a1, .int .i64 a2] w fun e w' => ∃ v0_ : Value, e = .returned (v0_) ∧ Kd.R (Kd.int .i64) 3 w' w.heap.size (fun _ => True) v0_ r ∧ Below w.heap.size w w' := by
  unfold config_Routes.f at h
  by_cases hn : l1.length ≤ 1000000
  · rw [if_pos hn] at h
    obtain rfl := Option.some.inj h
    exact config_Routes.walk A0 c0 l0 A1 c1 l1 a0 a1 a2 w hr0 hc0 hr1 hn
  · rw [if_neg hn] at h
    cases h
end

/-! ### vtime_clamp: function 57 -/
def vtime_clamp.f (a0 : Int) : Option (Int) := if a0 < 0 then (some 0) else (if a0 > 1099511627776 then (some 1125899906842624) else (some a0))
set_option maxHeartbeats 8000000 in
set_option maxRecDepth 100000 in
theorem vtime_clamp.calls (a0 : Int) (r : Int) (w : World) (h : vtime_clamp.f a0 = some r) :
    Calls Try.prog 57 #[.int .i64 a0] w fun e w' => e = .returned (.int .i64 r) ∧ Drawn0 w w' := by
  have H : (if a0 < 0 then (some 0) else (if a0 > 1099511627776 then (some 1125899906842624) else (some a0))) = some r := h
  clear h
  by_cases c2 : a0 < 0
  · rw [if_pos c2] at H
    have c2b0 : decide (a0 < 0) = true := decide_eq_true c2
    clear c2
    obtain rfl := Option.some.inj H
    go_enter Try.func57, Try.ntmps57
    go_wp2
    go_ret
    exact ⟨by first | rfl | (simp; done) | (simp [*]; done), by repeat (first | exact Drawn0.refl _ | apply Drawn0.step)⟩
  · rw [if_neg c2] at H
    have c2b0 : decide (a0 < 0) = false := decide_eq_false c2
    clear c2
    by_cases c3 : a0 > 1099511627776
    · rw [if_pos c3] at H
      have c3b0 : decide (1099511627776 < a0) = true := decide_eq_true c3
      clear c3
      obtain rfl := Option.some.inj H
      go_enter Try.func57, Try.ntmps57
      go_wp2
      go_ret
      exact ⟨by first | rfl | (simp; done) | (simp [*]; done), by repeat (first | exact Drawn0.refl _ | apply Drawn0.step)⟩
    · rw [if_neg c3] at H
      have c3b0 : decide (1099511627776 < a0) = false := decide_eq_false c3
      clear c3
      obtain rfl := Option.some.inj H
      go_enter Try.func57, Try.ntmps57
      go_wp2
      go_ret
      exact ⟨by first | rfl | (simp; done) | (simp [*]; done), by repeat (first | exact Drawn0.refl _ | apply Drawn0.step)⟩

/-! ### vtime_Add: function 47 -/
def vtime_Add.f (a0 : Int) (a1 : Int) : Option (Int) := (vtime_clamp.f a0).bind fun t148 => ((vtime_clamp.f a1).bind fun t149 => ((vtime_clamp.f (wrap64 (t148 + t149))).bind fun t150 => (some t150)))
set_option maxHeartbeats 8000000 in
set_option maxRecDepth 100000 in
theorem vtime_Add.calls (a0 : Int) (a1 : Int) (r : Int) (w : World) (h : vtime_Add.f a0 a1 = some r) :
    Calls Try.prog 47 #[.int .i64 a0, .int .i64 a1] w fun e w' => e = .returned (.int .i64 r) ∧ Drawn0 w w' := by
  have H : ((vtime_clamp.f a0).bind fun t148 => ((vtime_clamp.f a1).bind fun t149 => ((vtime_clamp.f (wrap64 (t148 + t149))).bind fun t150 => (some t150)))) = some r := h
  clear h
  replace H := Option.bind_eq_some_iff.mp H
  obtain ⟨t148, A30, H⟩ := H
  replace H : ((vtime_clamp.f a1).bind fun t149 => ((vtime_clamp.f (wrap64 (t148 + t149))).bind fun t150 => (some t150))) = some r := H
  have A3 := Aside0.mk A30
  clear A30
  replace H := Option.bind_eq_some_iff.mp H
  obtain ⟨t149, A40, H⟩ := H
  replace H : ((vtime_clamp.f (wrap64 (t148 + t149))).bind fun t150 => (some t150)) = some r := H
  have A4 := Aside0.mk A40
  clear A40
  replace H := Option.bind_eq_some_iff.mp H
  obtain ⟨t150, A50, H⟩ := H
  replace H : (some t150) = some r := H
  have A5 := Aside0.mk A50
  clear A50
  obtain rfl := Option.some.inj H
  go_enter Try.func47, Try.ntmps47
  go_wp2_with (first | ((with_reducible refine gate_callee (f := 57) rfl ?_); refine goesL_ (some 6) rfl rfl Try.func57 (by kernel_rfl) rfl #[.int .i64 a0] rfl (by (try simp only [List.map_toArray, List.map_cons, List.map_nil]); first | done | rfl | (simp only [List.length_drop, List.length_take]; rfl)) ?_; (with_reducible refine (vtime_clamp.calls a0 t148 _ A3.out).mono ?_); rintro e w' ⟨rfl, ⟨nd, rfl⟩⟩; refine ⟨_, rfl, ?_⟩) | ((with_reducible refine gate_callee (f := 57) rfl ?_); refine goesL_ (some 8) rfl rfl Try.func57 (by kernel_rfl) rfl #[.int .i64 a1] rfl (by (try simp only [List.map_toArray, List.map_cons, List.map_nil]); first | done | rfl | (simp only [List.length_drop, List.length_take]; rfl)) ?_; (with_reducible refine (vtime_clamp.calls a1 t149 _ A4.out).mono ?_); rintro e w' ⟨rfl, ⟨nd, rfl⟩⟩; refine ⟨_, rfl, ?_⟩) | ((with_reducible refine gate_callee (f := 57) rfl ?_); refine goesL_ (some 10) rfl rfl Try.func57 (by kernel_rfl) rfl #[.int .i64 (wrap64 (t148 + t149))] rfl (by (try simp only [List.map_toArray, List.map_cons, List.map_nil]); first | done | rfl | (simp only [List.length_drop, List.length_take]; rfl)) ?_; (with_reducible refine (vtime_clamp.calls (wrap64 (t148 + t149)) t150 _ A5.out).mono ?_); rintro e w' ⟨rfl, ⟨nd, rfl⟩⟩; refine ⟨_, rfl, ?_⟩))
  go_ret
  exact ⟨by first | rfl | (simp; done) | (simp [*]; done), by repeat (first | exact Drawn0.refl _ | apply Drawn0.step)⟩

/-! ### table_modulo: function 48 -/
def table_modulo.f (a0 : Int) : Option (Int) := if (Int.tmod a0 1000) < 0 then (some (wrap64 ((Int.tmod a0 1000) + 1000))) else (some (Int.tmod a0 1000))
set_option maxHeartbeats 8000000 in
set_option maxRecDepth 100000 in
theorem table_modulo.calls (a0 : Int) (r : Int) (w : World) (h : table_modulo.f a0 = some r) :
    Calls Try.prog 48 #[.int .i64 a0] w fun e w' => e = .returned (.int .i64 r) ∧ Drawn0 w w' := by
  have H : (if (Int.tmod a0 1000) < 0 then (some (wrap64 ((Int.tmod a0 1000) + 1000))) else (some (Int.tmod a0 1000))) = some r := h
  clear h
  by_cases c2 : (Int.tmod a0 1000) < 0
  · rw [if_pos c2] at H
    have c2b0 : decide ((Int.tmod a0 1000) < 0) = true := decide_eq_true c2
    clear c2
    obtain rfl := Option.some.inj H
    go_enter Try.func48, Try.ntmps48
    go_wp2
    go_ret
    exact ⟨by first | rfl | (simp; done) | (simp [*]; done), by repeat (first | exact Drawn0.refl _ | apply Drawn0.step)⟩
  · rw [if_neg c2] at H
    have c2b0 : decide ((Int.tmod a0 1000) < 0) = false := decide_eq_false c2
    clear c2
    obtain rfl := Option.some.inj H
    go_enter Try.func48, Try.ntmps48
    go_wp2
    go_ret
    exact ⟨by first | rfl | (simp; done) | (simp [*]; done), by repeat (first | exact Drawn0.refl _ | apply Drawn0.step)⟩

end Go.Proofs.Ytdlagficilbbbaa.PConfigKinds
