-- Written by gp.py (this project's driver over the kit's print) out of the translation and wip/given; Lean checks it.
import Derived.Test.YtdlagficilbbbaaPConfigKindsx0
import Derived.Test.YtdlagficilbbbaaPConfigKindsx1
import Derived.Test.YtdlagficilbbbaaPConfigKindsx4
import Derived.Test.YtdlagficilbbbaaPConfigKindsx10
namespace Go.Proofs.Ytdlagficilbbbaa.PConfigKinds
open Go.RowKit Go.Proofs.YtdlagficilbbbaaR Go.Proofs.YtdlagficilbbbaaW.PrintWords Go.Proofs.YtdlagficilbbbaaW.PrintLast Go.Proofs.YtdlagficilbbbaaW.PrintMore
attribute [local go_sem] max2_int min2_int max_two min_two max_three min_three max_four min_four   -- for this text's walks alone
set_option linter.unusedVariables false
set_option linter.unusedSimpArgs false

attribute [local go_sem high] eqA48
/-! ### table_Sent: function 33 -/
def table_Sent.f (a0 : Int) (a1 : Int) (a2 : Int) (a3 : Int) (a4_0 : Int) (a4_1 : Int) (a4_2 : Int) : Option (Int × Int × Int × Int × Int × Int) := (vtime_Add.f a2 a4_1).bind fun t153 => ((table_modulo.f a3).bind fun t154 => ((table_modulo.f a4_2).bind fun t155 => ((table_modulo.f (wrap64 (t154 + t155))).bind fun t156 => (some (t153, a0, a1, (-1), a4_0, t156)))))
def table_Sent.T1 : Bool × List (List Nat × List Nat) := (true, [([], []), ([], []), ([1], [1]), ([0, 2], [0, 2]), ([], []), ([], []), ([3, 4, 5], [3, 4, 5]), ([], []), ([7], [7]), ([], []), ([9, 3], [9]), ([], []), ([11], [11]), ([12, 10], [12]), ([10, 13], [10, 13]), ([14, 13], [14]), ([6, 8, 15], [6, 8, 15]), ([16, 15, 0, 1, 2, 3, 4, 5, 6, 7, 8, 9, 10, 11, 12, 13, 14, 15, 16], [16])])
def table_Sent.B1 : List Nat := [0, 0, 2, 7, 0, 0, 63, 0, 128, 0, 527, 0, 2048, 7695, 15887, 32271, 65535, 131071]
theorem table_Sent.tab1 : rtab .any (opsOf Try.f33 1) = table_Sent.T1 := by kernel_rfl
theorem table_Sent.bits1 : waitsOk table_Sent.T1.2 table_Sent.B1 = true := by kernel_rfl
set_option maxHeartbeats 8000000 in
set_option maxRecDepth 100000 in
theorem table_Sent.calls (a0 : Int) (a1 : Int) (a2 : Int) (a3 : Int) (a4_0 : Int) (a4_1 : Int) (a4_2 : Int) (r1 : Int) (r2 : Int) (r3 : Int) (r4 : Int) (r5 : Int) (r6 : Int) (w : World) (h : table_Sent.f a0 a1 a2 a3 a4_0 a4_1 a4_2 = some (r1, r2, r3, r4, r5, r6)) :
    Calls Try.prog 33 #[.int .i64 a0, .int .i64 a1, .int .i64 a2, .int .i64 a3, .agg #[.int .i64 a4_0, .int .i64 a4_1, .int .i64 a4_2]] w fun e w' => e = .returned (.agg #[.int .i64 r1, .int .i64 r2, .int .i64 r3, .int .i64 r4, .int .i64 r5, .int .i64 r6]) ∧ Below w.heap.size w w' := by
  have hu55 := Try.underlying55
  have hu48 := Try.underlying48
  have hu46 := Try.underlying46
  have HB := Aside0.mk (Below.refl w.heap.size w)
  have H : ((vtime_Add.f a2 a4_1).bind fun t153 => ((table_modulo.f a3).bind fun t154 => ((table_modulo.f a4_2).bind fun t155 => ((table_modulo.f (wrap64 (t154 + t155))).bind fun t156 => (some (t153, a0, a1, (-1), a4_0, t156)))))) = some (r1, r2, r3, r4, r5, r6) := h
  clear h
  replace H := Option.bind_eq_some_iff.mp H
  obtain ⟨t153, A60, H⟩ := H
  replace H : ((table_modulo.f a3).bind fun t154 => ((table_modulo.f a4_2).bind fun t155 => ((table_modulo.f (wrap64 (t154 + t155))).bind fun t156 => (some (t153, a0, a1, (-1), a4_0, t156))))) = some (r1, r2, r3, r4, r5, r6) := H
  have A6 := Aside0.mk A60
  clear A60
  replace H := Option.bind_eq_some_iff.mp H
  obtain ⟨t154, A70, H⟩ := H
  replace H : ((table_modulo.f a4_2).bind fun t155 => ((table_modulo.f (wrap64 (t154 + t155))).bind fun t156 => (some (t153, a0, a1, (-1), a4_0, t156)))) = some (r1, r2, r3, r4, r5, r6) := H
  have A7 := Aside0.mk A70
  clear A70
  replace H := Option.bind_eq_some_iff.mp H
  obtain ⟨t155, A80, H⟩ := H
  replace H : ((table_modulo.f (wrap64 (t154 + t155))).bind fun t156 => (some (t153, a0, a1, (-1), a4_0, t156))) = some (r1, r2, r3, r4, r5, r6) := H
  have A8 := Aside0.mk A80
  clear A80
  replace H := Option.bind_eq_some_iff.mp H
  obtain ⟨t156, A90, H⟩ := H
  replace H : (some (t153, a0, a1, (-1), a4_0, t156)) = some (r1, r2, r3, r4, r5, r6) := H
  have A9 := Aside0.mk A90
  clear A90
  simp only [Option.some.injEq, Prod.mk.injEq] at H
  obtain ⟨rfl, rfl, rfl, rfl, rfl, rfl⟩ := H
  go_enter Try.func33, Try.ntmps33
  try go_wp2_with (first | ((with_reducible refine gate_dst (N := 9) rfl ?_); refine box_event ?hg (N := 9) ?hd (cs := #[.int .i64 a4_0, .int .i64 a4_1, .int .i64 a4_2]) (t := 55) ?hr ?_; (case hd => rfl); (case hg => rfl); (case hr => first | (go_simp; done) | (go_simp; rfl)); intro gb151 hg w10 hbox hb; have n0_ := Aside0.mk (below_step (by repeat (first | (with_reducible first | exact HB.out | apply below_alloc | apply pw_below_drewN | apply below_drew1) | exact HB.out)) hb); have n1_ := Aside0.mk (hbox); have n2_ := Aside0.mk ((by rw [hg]; exact (below_size (by repeat (first | (with_reducible first | exact HB.out | apply below_alloc | apply pw_below_drewN | apply below_drew1) | exact HB.out))) : w.heap.size ≤ gb151)); have n3_ := Aside0.mk ((by rw [hg]; exact (below_size (by repeat (first | (with_reducible first | exact HB.out | apply below_alloc | apply pw_below_drewN | apply below_drew1) | exact HB.out))) : w.heap.size ≤ gb151)); clear HB; have HB := n0_; have BK151 := n1_; have GW151 := n2_; have GE151 := n3_; clear n0_ n1_ n2_ n3_; clear hb hbox hg) | ((with_reducible refine gate_dst (N := 10) rfl ?_); refine box_event ?hg (N := 10) ?hd (cs := #[.int .i64 0, .int .i64 0, .int .i64 0, .int .i64 0, .int .i64 0, .int .i64 0]) (t := 48) ?hr ?_; (case hd => rfl); (case hg => rfl); (case hr => first | (go_simp; done) | (go_simp; rfl)); intro gb152 hg w11 hbox hb; have n0_ := Aside0.mk (blk_below (g := gb151) (o := .cells #[.int .i64 a4_0, .int .i64 a4_1, .int .i64 a4_2] 55 (0, 0)) (by (with_reducible repeat (first | refine blk_drewN ?_ _ | refine blk_drew ?_ | refine blk_alloc ?_ _)); exact BK151.out) hb); have n1_ := Aside0.mk (below_step (by repeat (first | (with_reducible first | exact HB.out | apply below_alloc | apply pw_below_drewN | apply below_drew1 | refine below_set ?_ GE151.out) | exact HB.out)) hb); have n2_ := Aside0.mk (hbox); have n3_ := Aside0.mk ((by rw [hg]; exact (below_size (by repeat (first | (with_reducible first | exact HB.out | apply below_alloc | apply pw_below_drewN | apply below_drew1 | refine below_set ?_ GE151.out) | exact HB.out))) : w.heap.size ≤ gb152)); have n4_ := Aside0.mk ((by rw [hg]; exact (below_size (by repeat (first | (with_reducible first | exact HB.out | apply below_alloc | apply pw_below_drewN | apply below_drew1 | refine below_set ?_ GE151.out) | exact HB.out))) : w.heap.size ≤ gb152)); have n5_ := Aside0.mk ((by rw [hg]; exact Nat.ne_of_lt (blk_lt (g := gb151) (o := .cells #[.int .i64 a4_0, .int .i64 a4_1, .int .i64 a4_2] 55 (0, 0)) (by (with_reducible repeat (first | refine blk_drewN ?_ _ | refine blk_drew ?_ | refine blk_alloc ?_ _)); exact BK151.out)) : gb151 ≠ gb152)); have n6_ := Aside0.mk ((by rw [hg]; exact Nat.ne_of_gt (blk_lt (g := gb151) (o := .cells #[.int .i64 a4_0, .int .i64 a4_1, .int .i64 a4_2] 55 (0, 0)) (by (with_reducible repeat (first | refine blk_drewN ?_ _ | refine blk_drew ?_ | refine blk_alloc ?_ _)); exact BK151.out)) : gb152 ≠ gb151)); clear BK151; clear HB; have BK151 := n0_; have HB := n1_; have BK152 := n2_; have GW152 := n3_; have GE152 := n4_; have NB151_152 := n5_; have NB152_151 := n6_; clear n0_ n1_ n2_ n3_ n4_ n5_ n6_; clear hb hbox hg))
  have n0_ := Aside0.mk (blk_drew BK151.out)
  have n1_ := Aside0.mk (blk_drew BK152.out)
  have n2_ := Aside0.mk (below_drew1 HB.out)
  clear BK151
  clear BK152
  clear HB
  have BK151 := n0_
  have BK152 := n1_
  have HB := n2_
  clear n0_ n1_ n2_
  refine start_ (n := 18) (S := fun w' => w'.cell? ⟨gb151, 0, none⟩ = some (.int .i64 a4_0) ∧ w'.cell? ⟨gb151, 1, none⟩ = some (.int .i64 a4_1) ∧ w'.cell? ⟨gb151, 2, none⟩ = some (.int .i64 a4_2)) (ds := []) #[false, false, false, false, false, false, false, false, false, false, false, false, false, false, false, false, false, false] (by kernel_rfl) rfl rfl ⟨(blk_cell BK151.out 0).trans rfl, (blk_cell BK151.out 1).trans rfl, (blk_cell BK151.out 2).trans rfl⟩ (fun hHeld => ?_); refine with_tabW table_Sent.tab1 table_Sent.bits1 (fun HT_ HW_ => ?_)
  generalize w11.drew = w12 at BK151 BK152 HB hHeld ⊢
  refine pure_ (i := 0) (N := some 11) (v := ?_) (a' := ?_) #[true, false, false, false, false, false, false, false, false, false, false, false, false, false, false, false, false, false] rfl rfl (any_of HT_.out (by kernel_rfl)) (fun _ _ _ h => h) (Or.inl ⟨by rfl, ?_⟩) ?_ ?_
  rotate_left
  · intro w'
    go_simp
    with_reducible rfl
  rotate_left
  · simp only [Act.put, List.setIfInBounds_toArray, List.set_cons_zero, List.set_cons_succ, i64_w, i32_w]
    rfl
  refine pure_ (i := 1) (N := some 12) (v := ?_) (a' := ?_) #[true, true, false, false, false, false, false, false, false, false, false, false, false, false, false, false, false, false] rfl rfl (any_of HT_.out (by kernel_rfl)) (fun _ _ _ h => h) (Or.inl ⟨by rfl, ?_⟩) ?_ ?_
  rotate_left
  · intro w'
    go_simp
    with_reducible rfl
  rotate_left
  · simp only [Act.put, List.setIfInBounds_toArray, List.set_cons_zero, List.set_cons_succ, i64_w, i32_w]
    rfl
  refine pure_ (i := 4) (N := some 15) (v := ?_) (a' := ?_) #[true, true, false, false, true, false, false, false, false, false, false, false, false, false, false, false, false, false] rfl rfl (any_of HT_.out (by kernel_rfl)) (fun _ _ _ h => h) (Or.inl ⟨by rfl, ?_⟩) ?_ ?_
  rotate_left
  · intro w'
    go_simp
    with_reducible rfl
  rotate_left
  · simp only [Act.put, List.setIfInBounds_toArray, List.set_cons_zero, List.set_cons_succ, i64_w, i32_w]
    rfl
  refine pure_ (i := 5) (N := some 16) (v := ?_) (a' := ?_) #[true, true, false, false, true, true, false, false, false, false, false, false, false, false, false, false, false, false] rfl rfl (any_of HT_.out (by kernel_rfl)) (fun _ _ _ h => h) (Or.inl ⟨by rfl, ?_⟩) ?_ ?_
  rotate_left
  · intro w'
    go_simp
    with_reducible rfl
  rotate_left
  · simp only [Act.put, List.setIfInBounds_toArray, List.set_cons_zero, List.set_cons_succ, i64_w, i32_w]
    rfl
  refine pure_ (i := 7) (N := some 18) (v := ?_) (a' := ?_) #[true, true, false, false, true, true, false, true, false, false, false, false, false, false, false, false, false, false] rfl rfl (any_of HT_.out (by kernel_rfl)) (fun _ _ _ h => h) (Or.inl ⟨by rfl, ?_⟩) ?_ ?_
  rotate_left
  · intro w'
    go_simp
    with_reducible rfl
  rotate_left
  · simp only [Act.put, List.setIfInBounds_toArray, List.set_cons_zero, List.set_cons_succ, i64_w, i32_w]
    rfl
  refine pure_ (i := 9) (N := some 20) (v := ?_) (a' := ?_) #[true, true, false, false, true, true, false, true, false, true, false, false, false, false, false, false, false, false] rfl rfl (any_of HT_.out (by kernel_rfl)) (fun _ _ _ h => h) (Or.inl ⟨by rfl, ?_⟩) ?_ ?_
  rotate_left
  · intro w'
    go_simp
    with_reducible rfl
  rotate_left
  · simp only [Act.put, List.setIfInBounds_toArray, List.set_cons_zero, List.set_cons_succ, i64_w, i32_w]
    rfl
  refine pure_ (i := 11) (N := some 22) (v := ?_) (a' := ?_) #[true, true, false, false, true, true, false, true, false, true, false, true, false, false, false, false, false, false] rfl rfl (any_of HT_.out (by kernel_rfl)) (fun _ _ _ h => h) (Or.inl ⟨by rfl, ?_⟩) ?_ ?_
  rotate_left
  · intro w'
    go_simp
    with_reducible rfl
  rotate_left
  · simp only [Act.put, List.setIfInBounds_toArray, List.set_cons_zero, List.set_cons_succ, i64_w, i32_w]
    rfl
  refine take_ (i := 2) (N := some 13) (v := ?_) (a' := ?_) #[true, true, true, false, true, true, false, true, false, true, false, true, false, false, false, false, false, false] rfl rfl (take_ofW HT_.out HW_.out (by kernel_rfl)) (fun _ _ _ h => h) (Or.inl ⟨by rfl, ?_⟩) hHeld ?_ ?_
  rotate_left
  · rintro w' ⟨s0, s1, s2⟩
    go_simp
    with_reducible rfl
  rotate_left
  · simp only [Act.put, List.setIfInBounds_toArray, List.set_cons_zero, List.set_cons_succ, i64_w, i32_w]
    rfl
  refine take_ (i := 8) (N := some 19) (v := ?_) (a' := ?_) #[true, true, true, false, true, true, false, true, true, true, false, true, false, false, false, false, false, false] rfl rfl (take_ofW HT_.out HW_.out (by kernel_rfl)) (fun _ _ _ h => h) (Or.inl ⟨by rfl, ?_⟩) hHeld ?_ ?_
  rotate_left
  · rintro w' ⟨s0, s1, s2⟩
    go_simp
    with_reducible rfl
  rotate_left
  · simp only [Act.put, List.setIfInBounds_toArray, List.set_cons_zero, List.set_cons_succ, i64_w, i32_w]
    rfl
  refine take_ (i := 12) (N := some 23) (v := ?_) (a' := ?_) #[true, true, true, false, true, true, false, true, true, true, false, true, true, false, false, false, false, false] rfl rfl (take_ofW HT_.out HW_.out (by kernel_rfl)) (fun _ _ _ h => h) (Or.inl ⟨by rfl, ?_⟩) hHeld ?_ ?_
  rotate_left
  · rintro w' ⟨s0, s1, s2⟩
    go_simp
    with_reducible rfl
  rotate_left
  · simp only [Act.put, List.setIfInBounds_toArray, List.set_cons_zero, List.set_cons_succ, i64_w, i32_w]
    rfl
  refine one_ (i := 3) (N := some 14) #[true, true, true, true, true, true, false, true, true, true, false, true, true, false, false, false, false, false] rfl rfl (one_of HT_.out (by kernel_rfl)) (by decide) (fun K hK => ?_)
  refine goes_ Try.func47 (by kernel_rfl) rfl #[.int .i64 a2, .int .i64 a4_1] (by rfl) rfl rfl (by (try simp only [List.map_toArray, List.map_cons, List.map_nil]); first | done | rfl | (simp only [List.length_drop, List.length_take]; rfl)) ?_
  with_reducible refine (vtime_Add.calls a2 a4_1 t153 _ A6.out).mono ?_
  rintro e w' ⟨rfl, ⟨nd, rfl⟩⟩
  refine ⟨_, rfl, ?_⟩
  refine hK.out _ _ ⟨(blk_cell BK151.out 0).trans rfl, (blk_cell BK151.out 1).trans rfl, (blk_cell BK151.out 2).trans rfl⟩ (fun hHeld => ?_)
  clear hK K
  refine norm_ (a' := ?_) ?_ ?_
  rotate_left
  · show Act.put _ (some 14) _ = _
    simp only [Act.put, List.setIfInBounds_toArray, List.set_cons_zero, List.set_cons_succ, i64_w, i32_w]
    rfl
  refine pure_ (i := 6) (N := some 17) (v := ?_) (a' := ?_) #[true, true, true, true, true, true, true, true, true, true, false, true, true, false, false, false, false, false] rfl rfl (any_of HT_.out (by kernel_rfl)) (fun _ _ _ h => h) (Or.inl ⟨by rfl, ?_⟩) ?_ ?_
  rotate_left
  · intro w'
    go_simp
    with_reducible rfl
  rotate_left
  · simp only [Act.put, List.setIfInBounds_toArray, List.set_cons_zero, List.set_cons_succ, i64_w, i32_w]
    rfl
  refine one_ (i := 10) (N := some 21) #[true, true, true, true, true, true, true, true, true, true, true, true, true, false, false, false, false, false] rfl rfl (one_of HT_.out (by kernel_rfl)) (by decide) (fun K hK => ?_)
  refine goes_ Try.func48 (by kernel_rfl) rfl #[.int .i64 a3] (by rfl) rfl rfl (by (try simp only [List.map_toArray, List.map_cons, List.map_nil]); first | done | rfl | (simp only [List.length_drop, List.length_take]; rfl)) ?_
  with_reducible refine (table_modulo.calls a3 t154 _ A7.out).mono ?_
  rintro e w' ⟨rfl, ⟨nd, rfl⟩⟩
  refine ⟨_, rfl, ?_⟩
  refine hK.out _ _ ⟨(blk_cell BK151.out 0).trans rfl, (blk_cell BK151.out 1).trans rfl, (blk_cell BK151.out 2).trans rfl⟩ (fun hHeld => ?_)
  clear hK K
  refine norm_ (a' := ?_) ?_ ?_
  rotate_left
  · show Act.put _ (some 21) _ = _
    simp only [Act.put, List.setIfInBounds_toArray, List.set_cons_zero, List.set_cons_succ, i64_w, i32_w]
    rfl
  refine one_ (i := 13) (N := some 24) #[true, true, true, true, true, true, true, true, true, true, true, true, true, true, false, false, false, false] rfl rfl (one_of HT_.out (by kernel_rfl)) (by decide) (fun K hK => ?_)
  refine goes_ Try.func48 (by kernel_rfl) rfl #[.int .i64 a4_2] (by rfl) rfl rfl (by (try simp only [List.map_toArray, List.map_cons, List.map_nil]); first | done | rfl | (simp only [List.length_drop, List.length_take]; rfl)) ?_
  with_reducible refine (table_modulo.calls a4_2 t155 _ A8.out).mono ?_
  rintro e w' ⟨rfl, ⟨nd, rfl⟩⟩
  refine ⟨_, rfl, ?_⟩
  refine hK.out _ _ ⟨(blk_cell BK151.out 0).trans rfl, (blk_cell BK151.out 1).trans rfl, (blk_cell BK151.out 2).trans rfl⟩ (fun hHeld => ?_)
  clear hK K
  refine norm_ (a' := ?_) ?_ ?_
  rotate_left
  · show Act.put _ (some 24) _ = _
    simp only [Act.put, List.setIfInBounds_toArray, List.set_cons_zero, List.set_cons_succ, i64_w, i32_w]
    rfl
  refine pure_ (i := 14) (N := some 25) (v := ?_) (a' := ?_) #[true, true, true, true, true, true, true, true, true, true, true, true, true, true, true, false, false, false] rfl rfl (any_of HT_.out (by kernel_rfl)) (fun _ _ _ h => h) (Or.inl ⟨by rfl, ?_⟩) ?_ ?_
  rotate_left
  · intro w'
    go_simp
    with_reducible rfl
  rotate_left
  · simp only [Act.put, List.setIfInBounds_toArray, List.set_cons_zero, List.set_cons_succ, i64_w, i32_w]
    rfl
  refine one_ (i := 15) (N := some 26) #[true, true, true, true, true, true, true, true, true, true, true, true, true, true, true, true, false, false] rfl rfl (one_of HT_.out (by kernel_rfl)) (by decide) (fun K hK => ?_)
  refine goes_ Try.func48 (by kernel_rfl) rfl #[.int .i64 (wrap64 (t154 + t155))] (by rfl) rfl rfl (by (try simp only [List.map_toArray, List.map_cons, List.map_nil]); first | done | rfl | (simp only [List.length_drop, List.length_take]; rfl)) ?_
  with_reducible refine (table_modulo.calls (wrap64 (t154 + t155)) t156 _ A9.out).mono ?_
  rintro e w' ⟨rfl, ⟨nd, rfl⟩⟩
  refine ⟨_, rfl, ?_⟩
  refine hK.out _ _ ⟨(blk_cell BK151.out 0).trans rfl, (blk_cell BK151.out 1).trans rfl, (blk_cell BK151.out 2).trans rfl⟩ (fun hHeld => ?_)
  clear hK K
  refine norm_ (a' := ?_) ?_ ?_
  rotate_left
  · show Act.put _ (some 26) _ = _
    simp only [Act.put, List.setIfInBounds_toArray, List.set_cons_zero, List.set_cons_succ, i64_w, i32_w]
    rfl
  refine pure_ (i := 16) (N := some 27) (v := ?_) (a' := ?_) #[true, true, true, true, true, true, true, true, true, true, true, true, true, true, true, true, true, false] rfl rfl (any_of HT_.out (by kernel_rfl)) (fun _ _ _ h => h) (Or.inl ⟨by rfl, ?_⟩) ?_ ?_
  rotate_left
  · intro w'
    go_simp
    with_reducible rfl
  rotate_left
  · simp only [Act.put, List.setIfInBounds_toArray, List.set_cons_zero, List.set_cons_succ, i64_w, i32_w]
    rfl
  refine one_ (i := 17) (N := none) #[true, true, true, true, true, true, true, true, true, true, true, true, true, true, true, true, true, true] rfl rfl (one_of HT_.out (by kernel_rfl)) (by decide) (fun K hK => ?_)
  have hs13 : w12.cell? ⟨gb152, 0, none⟩ = some (.int .i64 0) := (blk_cell BK152.out 0).trans rfl
  have hfs13 := blk_frozen BK152.out 0
  have hns13_0 := NB151_152.out
  have hms13_0 := NB152_151.out
  have hs14 : w12.cell? ⟨gb152, 1, none⟩ = some (.int .i64 0) := (blk_cell BK152.out 1).trans rfl
  have hfs14 := blk_frozen BK152.out 1
  have hns14_0 := NB151_152.out
  have hms14_0 := NB152_151.out
  have hs15 : w12.cell? ⟨gb152, 2, none⟩ = some (.int .i64 0) := (blk_cell BK152.out 2).trans rfl
  have hfs15 := blk_frozen BK152.out 2
  have hns15_0 := NB151_152.out
  have hms15_0 := NB152_151.out
  have hs16 : w12.cell? ⟨gb152, 3, none⟩ = some (.int .i64 0) := (blk_cell BK152.out 3).trans rfl
  have hfs16 := blk_frozen BK152.out 3
  have hns16_0 := NB151_152.out
  have hms16_0 := NB152_151.out
  have hs17 : w12.cell? ⟨gb152, 4, none⟩ = some (.int .i64 0) := (blk_cell BK152.out 4).trans rfl
  have hfs17 := blk_frozen BK152.out 4
  have hns17_0 := NB151_152.out
  have hms17_0 := NB152_151.out
  have hs18 : w12.cell? ⟨gb152, 5, none⟩ = some (.int .i64 0) := (blk_cell BK152.out 5).trans rfl
  have hfs18 := blk_frozen BK152.out 5
  have hns18_0 := NB151_152.out
  have hms18_0 := NB152_151.out
  refine skip_ (w1 := ?_) (by rfl) rfl ?_ ?_
  rotate_left
  · go_simp
    rfl
  refine hK.out _ _ ⟨((cell_far (p := ⟨gb152, _, none⟩) NB151_152.out _).trans (((cell_far (p := ⟨gb152, _, none⟩) NB151_152.out _).trans (((cell_far (p := ⟨gb152, _, none⟩) NB151_152.out _).trans (((cell_far (p := ⟨gb152, _, none⟩) NB151_152.out _).trans (((cell_far (p := ⟨gb152, _, none⟩) NB151_152.out _).trans (((cell_far (p := ⟨gb152, _, none⟩) NB151_152.out _).trans (hHeld.1)))))))))))), ((cell_far (p := ⟨gb152, _, none⟩) NB151_152.out _).trans (((cell_far (p := ⟨gb152, _, none⟩) NB151_152.out _).trans (((cell_far (p := ⟨gb152, _, none⟩) NB151_152.out _).trans (((cell_far (p := ⟨gb152, _, none⟩) NB151_152.out _).trans (((cell_far (p := ⟨gb152, _, none⟩) NB151_152.out _).trans (((cell_far (p := ⟨gb152, _, none⟩) NB151_152.out _).trans (hHeld.2.1)))))))))))), ((cell_far (p := ⟨gb152, _, none⟩) NB151_152.out _).trans (((cell_far (p := ⟨gb152, _, none⟩) NB151_152.out _).trans (((cell_far (p := ⟨gb152, _, none⟩) NB151_152.out _).trans (((cell_far (p := ⟨gb152, _, none⟩) NB151_152.out _).trans (((cell_far (p := ⟨gb152, _, none⟩) NB151_152.out _).trans (((cell_far (p := ⟨gb152, _, none⟩) NB151_152.out _).trans (hHeld.2.2))))))))))))⟩ (fun hHeld => ?_)
  clear hK K
  refine done_ (done_of HT_.out (by kernel_rfl)) ?_
  try go_wp2
  refine bodyPost_ret (results_cell_row rfl _ _ gb152 48 #[.int .i64 t153, .int .i64 a0, .int .i64 a1, .int .i64 (-1), .int .i64 a4_0, .int .i64 t156] (0, 0) _ rfl (by (with_reducible repeat (first | refine blk_drewN ?_ _ | refine blk_drew ?_ | refine blk_alloc ?_ _)); refine blk_put (cs := #[.int .i64 t153, .int .i64 a0, .int .i64 a1, .int .i64 (-1), .int .i64 a4_0, .int .i64 0]) ?_ 5 _ rfl; (with_reducible repeat (first | refine blk_drewN ?_ _ | refine blk_drew ?_ | refine blk_alloc ?_ _)); refine blk_put (cs := #[.int .i64 t153, .int .i64 a0, .int .i64 a1, .int .i64 (-1), .int .i64 0, .int .i64 0]) ?_ 4 _ rfl; (with_reducible repeat (first | refine blk_drewN ?_ _ | refine blk_drew ?_ | refine blk_alloc ?_ _)); refine blk_put (cs := #[.int .i64 t153, .int .i64 a0, .int .i64 a1, .int .i64 0, .int .i64 0, .int .i64 0]) ?_ 3 _ rfl; (with_reducible repeat (first | refine blk_drewN ?_ _ | refine blk_drew ?_ | refine blk_alloc ?_ _)); refine blk_put (cs := #[.int .i64 t153, .int .i64 a0, .int .i64 0, .int .i64 0, .int .i64 0, .int .i64 0]) ?_ 2 _ rfl; (with_reducible repeat (first | refine blk_drewN ?_ _ | refine blk_drew ?_ | refine blk_alloc ?_ _)); refine blk_put (cs := #[.int .i64 t153, .int .i64 0, .int .i64 0, .int .i64 0, .int .i64 0, .int .i64 0]) ?_ 1 _ rfl; (with_reducible repeat (first | refine blk_drewN ?_ _ | refine blk_drew ?_ | refine blk_alloc ?_ _)); refine blk_put (cs := #[.int .i64 0, .int .i64 0, .int .i64 0, .int .i64 0, .int .i64 0, .int .i64 0]) ?_ 0 _ rfl; (with_reducible repeat (first | refine blk_drewN ?_ _ | refine blk_drew ?_ | refine blk_alloc ?_ _)); exact BK152.out) Try.underlying48 rfl (by kernel_rfl)) rfl ?_
  exact ⟨by first | rfl | (simp [errW_none, errW_some] <;> rfl) | (simp [*, errW_none, errW_some] <;> rfl), by repeat (first | (with_reducible first | exact HB.out | apply below_alloc | apply pw_below_drewN | apply below_drew1 | refine below_set ?_ GE151.out | refine below_set ?_ GE152.out) | exact HB.out)⟩

/-! ### config_Spread: function 16 -/
mutual
def config_Spread.l0 : Nat → Int → Int → Int → Int → List (S48) → List (S55) → Int → Int → List Int → List (S42) → Int → Option ((List (S48)))
 | 0, _, _, _, _, _, _, _, _, _, _, _ => none
 | k + 1, x1, x2, x3, x4, x13, x19, x20, x21, x158000, x158001, x158002 => if x21 < x20 then (if 0 ≤ x21 then (if x21 < (x19.length : Int) then ((table_Sent.f x1 (wrap64 (x2 + x21)) x3 x4 ((rd_T55 x19 x21).f0) ((rd_T55 x19 x21).f1) ((rd_T55 x19 x21).f2)).bind fun bt160 => ((config_Routes.f x158000 x158001 x158002 x1 bt160.2.2.2.2.1).bind fun t167 => (config_Spread.l1 k x1 x2 x3 x4 x13 x19 x20 x21 t167 (t167.length : Int) 0 x158000 x158001 x158002 bt160.1 bt160.2.1 bt160.2.2.1 bt160.2.2.2.1 bt160.2.2.2.2.1 bt160.2.2.2.2.2))) else (none)) else (none)) else (some x13)
def config_Spread.l1 : Nat → Int → Int → Int → Int → List (S48) → List (S55) → Int → Int → List Int → Int → Int → List Int → List (S42) → Int → Int → Int → Int → Int → Int → Int → Option ((List (S48)))
 | 0, _, _, _, _, _, _, _, _, _, _, _, _, _, _, _, _, _, _, _, _ => none
 | k + 1, x1, x2, x3, x4, x13, x19, x20, x21, x38, x39, x40, x158000, x158001, x158002, x167000, x167001, x167002, x167003, x167004, x167005 => if x40 < x39 then (if 0 ≤ x40 then (if x40 < (x38.length : Int) then (if x13.length < 2932031007402 then (config_Spread.l1 k x1 x2 x3 x4 (x13 ++ [(⟨(⟨x167000, x167001, x167002⟩ : S46), rd x38 x40, x167004, x167005⟩ : S48)]) x19 x20 x21 x38 x39 (wrap64 (x40 + 1)) x158000 x158001 x158002 x167000 x167001 x167002 (rd x38 x40) x167004 x167005) else (none)) else (none)) else (none)) else (config_Spread.l0 k x1 x2 x3 x4 x13 x19 x20 (wrap64 (x21 + 1)) x158000 x158001 x158002)
end
def config_Spread.f (k : Nat) (l0_0 : List Int) (l0_1 : List (S42)) (a0_2 : Int) (a1 : Int) (a2 : Int) (a3 : Int) (a4 : Int) (l5 : List (S55)) : Option ((List (S48))) := config_Spread.l0 k a1 a2 a3 a4 ([] : List (S48)) l5 (l5.length : Int) 0 l0_0 l0_1 a0_2
theorem config_Spread.mono_l : ∀ k, (∀ y0 y1 y2 y3 y4 y5 y6 y7 y8 y9 y10, LeO (config_Spread.l0 k y0 y1 y2 y3 y4 y5 y6 y7 y8 y9 y10) (config_Spread.l0 (k + 1) y0 y1 y2 y3 y4 y5 y6 y7 y8 y9 y10)) ∧ (∀ y0 y1 y2 y3 y4 y5 y6 y7 y8 y9 y10 y11 y12 y13 y14 y15 y16 y17 y18 y19, LeO (config_Spread.l1 k y0 y1 y2 y3 y4 y5 y6 y7 y8 y9 y10 y11 y12 y13 y14 y15 y16 y17 y18 y19) (config_Spread.l1 (k + 1) y0 y1 y2 y3 y4 y5 y6 y7 y8 y9 y10 y11 y12 y13 y14 y15 y16 y17 y18 y19))
 | 0 => ⟨fun _ _ _ _ _ _ _ _ _ _ _ r h => by simp [config_Spread.l0] at h, fun _ _ _ _ _ _ _ _ _ _ _ _ _ _ _ _ _ _ _ _ r h => by simp [config_Spread.l1] at h⟩
 | k + 1 => by
  obtain ⟨ih0, ih1⟩ := config_Spread.mono_l k
  refine ⟨?_, ?_⟩
  ·intro y0 y1 y2 y3 y4 y5 y6 y7 y8 y9 y10
   unfold config_Spread.l0
   repeat' first
   | (with_reducible exact ih0 _ _ _ _ _ _ _ _ _ _ _)
   | (with_reducible exact ih1 _ _ _ _ _ _ _ _ _ _ _ _ _ _ _ _ _ _ _ _)
   | (with_reducible exact LeO.refl _)
   | (with_reducible exact LeO.none _)
   | (with_reducible refine LeO.ite ?_ ?_)
   | (with_reducible refine LeO.bind ?_ (fun _ => ?_))
   | exact ih0 _ _ _ _ _ _ _ _ _ _ _
   | exact ih1 _ _ _ _ _ _ _ _ _ _ _ _ _ _ _ _ _ _ _ _
   | exact LeO.none _
   | refine LeO.ite ?_ ?_
   | refine LeO.bind ?_ (fun _ => ?_)
  ·intro y0 y1 y2 y3 y4 y5 y6 y7 y8 y9 y10 y11 y12 y13 y14 y15 y16 y17 y18 y19
   unfold config_Spread.l1
   repeat' first
   | (with_reducible exact ih0 _ _ _ _ _ _ _ _ _ _ _)
   | (with_reducible exact ih1 _ _ _ _ _ _ _ _ _ _ _ _ _ _ _ _ _ _ _ _)
   | (with_reducible exact LeO.refl _)
   | (with_reducible exact LeO.none _)
   | (with_reducible refine LeO.ite ?_ ?_)
   | (with_reducible refine LeO.bind ?_ (fun _ => ?_))
   | exact ih0 _ _ _ _ _ _ _ _ _ _ _
   | exact ih1 _ _ _ _ _ _ _ _ _ _ _ _ _ _ _ _ _ _ _ _
   | exact LeO.none _
   | refine LeO.ite ?_ ?_
   | refine LeO.bind ?_ (fun _ => ?_)
theorem config_Spread.mono : ∀ a0 a1 a2 a3 a4 a5 a6 a7 k, LeO (config_Spread.f k a0 a1 a2 a3 a4 a5 a6 a7) (config_Spread.f (k + 1) a0 a1 a2 a3 a4 a5 a6 a7) := by
 intro a0 a1 a2 a3 a4 a5 a6 a7 k
 obtain ⟨ih0, ih1⟩ := config_Spread.mono_l k
 unfold config_Spread.f
 repeat' first
   | (with_reducible exact ih0 _ _ _ _ _ _ _ _ _ _ _)
   | (with_reducible exact ih1 _ _ _ _ _ _ _ _ _ _ _ _ _ _ _ _ _ _ _ _)
   | (with_reducible exact LeO.refl _)
   | (with_reducible exact LeO.none _)
   | (with_reducible refine LeO.ite ?_ ?_)
   | (with_reducible refine LeO.bind ?_ (fun _ => ?_))
   | exact ih0 _ _ _ _ _ _ _ _ _ _ _
   | exact ih1 _ _ _ _ _ _ _ _ _ _ _ _ _ _ _ _ _ _ _ _
   | exact LeO.none _
   | refine LeO.ite ?_ ?_
   | refine LeO.bind ?_ (fun _ => ?_)
set_option maxHeartbeats 8000000 in
set_option maxRecDepth 100000 in
theorem config_Spread.calls (k : Nat) (A0_0 : Option Addr) (c0_0 : Nat) (l0_0 : List Int) (A0_1 : Option Addr) (c0_1 : Nat) (l0_1 : List (S42)) (a0_2 : Int) (a1 : Int) (a2 : Int) (a3 : Int) (a4 : Int) (A5 : Option Addr) (c5 : Nat) (l5 : List (S55)) (r : List (S48)) (w : World) (hr0_0 : Kd.C (Kd.int .i64) w A0_0 l0_0.length l0_0) (hc0_0 : l0_0.length ≤ c0_0) (hr0_1 : Kd.C k42 w A0_1 l0_1.length l0_1) (hc0_1 : l0_1.length ≤ c0_1) (hr5 : Kd.C k55 w A5 l5.length l5) (hc5 : l5.length ≤ c5) (h : config_Spread.f k l0_0 l0_1 a0_2 a1 a2 a3 a4 l5 = some r) :
  Calls Try.prog 16 #[.agg #[.slice A0_0 l0_0.length c0_0, .slice A0_1 l0_1.length c0_1, .int .i64 a0_2], .int .i64 a1, .int .i64 a2, .int .i64 a3, .int .i64 a4, .slice A5 l5.length c5] w fun e w' => ∃ v0_ : Value, e = .returned (v0_) ∧ Kd.R k48 48 w' w.heap.size (fun _ => True) v0_ r ∧ Below w.heap.size w w' := by
 have hu25 := Try.underlying25
 have hu55 := Try.underlying55
 have hu48 := Try.underlying48
 have HR0_0 := Aside0.mk hr0_0
 have HC0_0 := Aside0.mk hc0_0
 clear hr0_0 hc0_0
 have HR0_1 := Aside0.mk hr0_1
 have HC0_1 := Aside0.mk hc0_1
 clear hr0_1 hc0_1
 have HR5 := Aside0.mk hr5
 have HC5 := Aside0.mk hc5
 clear hr5 hc5
 have HB := Aside0.mk (Below.refl w.heap.size w)
 have H : (config_Spread.l0 k a1 a2 a3 a4 ([] : List (S48)) l5 (l5.length : Int) 0 l0_0 l0_1 a0_2) = some r := h
 clear h
 have H' := Aside0.mk H
 clear H
 go_enter Try.func16, Try.ntmps16
 go_wp2_with (first | ((with_reducible refine gate_dst (N := 6) rfl ?_); refine box_event ?hg (N := 6) ?hd (cs := #[.slice A0_0 l0_0.length c0_0, .slice A0_1 l0_1.length c0_1, .int .i64 a0_2]) (t := 25) ?hr ?_; (case hd => rfl); (case hg => rfl); (case hr => first | (go_simp; done) | (go_simp; rfl)); intro gb157 hg w7 hbox hb; have n0_ := Aside0.mk (below_step (by repeat (first | (with_reducible first | exact HB.out | apply below_alloc | apply pw_below_drewN | apply below_drew1) | exact HB.out)) hb); have n1_ := Aside0.mk (hbox); have n2_ := Aside0.mk ((by rw [hg]; exact (below_size (by repeat (first | (with_reducible first | exact HB.out | apply below_alloc | apply pw_below_drewN | apply below_drew1) | exact HB.out))) : w.heap.size ≤ gb157)); have n3_ := Aside0.mk ((by rw [hg]; exact (below_size (by repeat (first | (with_reducible first | exact HB.out | apply below_alloc | apply pw_below_drewN | apply below_drew1) | exact HB.out))) : w.heap.size ≤ gb157)); clear HB; have HB := n0_; have BK157 := n1_; have GW157 := n2_; have GE157 := n3_; clear n0_ n1_ n2_ n3_; clear hb hbox hg))
 go_loopg [13, 21] k (fun kq v13 v21 w' => ∃ (x13_1 : List (S48)) (x21_1 : Int), v21 = .int .i64 x21_1 ∧ Aside0 (config_Spread.l0 kq a1 a2 a3 a4 x13_1 l5 (l5.length : Int) x21_1 l0_0 l0_1 a0_2 = some r) ∧ Aside0 (kq ≤ k) ∧ Aside0 (Kd.R k48 48 w' w.heap.size (fun _ => True) v13 x13_1) ∧ Aside0 (w'.heap[gb157]? = some (.cells #[(.slice A0_0 l0_0.length c0_0), (.slice A0_1 l0_1.length c0_1), .int .i64 a0_2] 25 (0, 0))) ∧ Aside0 (Below w.heap.size w w'))
 case atStart => exact ⟨(([] : List (S48))), (0), (by first | rfl | (simp; done) | (simp [*]; done)), H', ⟨Nat.le_refl _⟩, ⟨by first | exact Kd.R_nil _ _ _ _ _ | exact Kd.N_nil _ _ _ _ _ | exact Kd.V_nil _ _ _ _ _ | exact Kd.Q_nil _ _ _ _ _ | exact Kd.S_nil _ _ _ _ _⟩, ⟨by (with_reducible repeat (first | refine blk_drewN ?_ _ | refine blk_drew ?_ | refine blk_alloc ?_ _)); exact BK157.out⟩, ⟨by repeat (first | (with_reducible first | exact HB.out | apply below_alloc | apply pw_below_drewN | apply below_drew1 | refine below_set ?_ GE157.out) | exact HB.out)⟩⟩
 case round =>
  clear H'
  try clear c1
  try clear p2
  try clear c5
  obtain ⟨x13_1, x21_1, rfl, HA, HK1, HO_13, BK157, HB⟩ := hrel
  cases gk with
  | zero => exact absurd HA.out (by simp [config_Spread.l0])
  | succ k1 =>
   have H := HA.out
   clear HA
   simp only [config_Spread.l0] at H
   by_cases c8 : x21_1 < (l5.length : Int)
   ·rw [if_pos c8] at H
    have c8b0 : decide (x21_1 < (l5.length : Int)) = true := decide_eq_true c8
    clear c8
    by_cases c9 : 0 ≤ x21_1
    ·rw [if_pos c9] at H
     have c9b0 : decide (0 ≤ x21_1) = true := decide_eq_true c9
     clear c9
     by_cases c10 : x21_1 < (l5.length : Int)
     ·rw [if_pos c10] at H
      have c10b0 : decide (x21_1 < (l5.length : Int)) = true := decide_eq_true c10
      clear c10
      replace H := Option.bind_eq_some_iff.mp H
      obtain ⟨⟨t160, t161, t162, t163, t164, t165⟩, A110, H⟩ := H
      replace H : ((config_Routes.f l0_0 l0_1 a0_2 a1 t164).bind fun t167 => (config_Spread.l1 k1 a1 a2 a3 a4 x13_1 l5 (l5.length : Int) x21_1 t167 (t167.length : Int) 0 l0_0 l0_1 a0_2 t160 t161 t162 t163 t164 t165)) = some r := H
      have A11 := Aside0.mk A110
      clear A110
      replace H := Option.bind_eq_some_iff.mp H
      obtain ⟨t167, A120, H⟩ := H
      replace H : (config_Spread.l1 k1 a1 a2 a3 a4 x13_1 l5 (l5.length : Int) x21_1 t167 (t167.length : Int) 0 l0_0 l0_1 a0_2 t160 t161 t162 t163 t164 t165) = some r := H
      have A12 := Aside0.mk A120
      clear A120
      have H' := Aside0.mk H
      clear H
      have p158 : 0 ≤ (x21_1 : Int) := of_decide_eq_true (by first | (with_reducible assumption) | assumption)
      have q158 : x21_1 < (l5.length : Int) := of_decide_eq_true (by first | (with_reducible assumption) | assumption)
      obtain ⟨ad158, e158, hx158_0, hx158_1, hx158_2⟩ := at_T55 HR5.out x21_1 p158 q158
      cases e158
      replace hx158_0 := (HB.out.cell (World.block_lt_of_cell? w _ hx158_0)).trans hx158_0
      replace hx158_1 := (HB.out.cell (World.block_lt_of_cell? w _ hx158_1)).trans hx158_1
      replace hx158_2 := (HB.out.cell (World.block_lt_of_cell? w _ hx158_2)).trans hx158_2
      replace p158 := eq_true p158
      replace q158 := eq_true q158
      go_wp2_with (first | ((with_reducible refine gate_dst (N := 15) rfl ?_); refine box_event ?hg (N := 15) ?hd (cs := #[.int .i64 0, .int .i64 0, .int .i64 0]) (t := 55) ?hr ?_; (case hd => rfl); (case hg => rfl); (case hr => first | (go_simp; done) | (go_simp; rfl)); intro gb159 hg w13 hbox hb; have n0_ := Aside0.mk (Kd.R_below (by (with_reducible repeat (first | apply Kd.R_alloc | apply Kd.R_drewN | apply Kd.R_drew)); exact HO_13.out) hb); have n1_ := Aside0.mk (blk_below (g := gb157) (o := .cells #[.slice A0_0 l0_0.length c0_0, .slice A0_1 l0_1.length c0_1, .int .i64 a0_2] 25 (0, 0)) (by (with_reducible repeat (first | refine blk_drewN ?_ _ | refine blk_drew ?_ | refine blk_alloc ?_ _)); exact BK157.out) hb); have n2_ := Aside0.mk (below_step (by repeat (first | (with_reducible first | exact HB.out | apply below_alloc | apply pw_below_drewN | apply below_drew1 | refine below_set ?_ GE157.out) | exact HB.out)) hb); have n3_ := Aside0.mk (hbox); have n4_ := Aside0.mk ((by rw [hg]; exact (below_size (by repeat (first | (with_reducible first | exact HB.out | apply below_alloc | apply pw_below_drewN | apply below_drew1 | refine below_set ?_ GE157.out) | exact HB.out))) : w.heap.size ≤ gb159)); have n5_ := Aside0.mk ((by rw [hg]; exact (below_size (by repeat (first | (with_reducible first | exact HB.out | apply below_alloc | apply pw_below_drewN | apply below_drew1 | refine below_set ?_ GE157.out) | exact HB.out))) : w.heap.size ≤ gb159)); have n6_ := Aside0.mk ((by rw [hg]; exact Nat.ne_of_lt (blk_lt (g := gb157) (o := .cells #[.slice A0_0 l0_0.length c0_0, .slice A0_1 l0_1.length c0_1, .int .i64 a0_2] 25 (0, 0)) (by (with_reducible repeat (first | refine blk_drewN ?_ _ | refine blk_drew ?_ | refine blk_alloc ?_ _)); exact BK157.out)) : gb157 ≠ gb159)); have n7_ := Aside0.mk ((by rw [hg]; exact Nat.ne_of_gt (blk_lt (g := gb157) (o := .cells #[.slice A0_0 l0_0.length c0_0, .slice A0_1 l0_1.length c0_1, .int .i64 a0_2] 25 (0, 0)) (by (with_reducible repeat (first | refine blk_drewN ?_ _ | refine blk_drew ?_ | refine blk_alloc ?_ _)); exact BK157.out)) : gb159 ≠ gb157)); clear HO_13; clear BK157; clear HB; have HO_13 := n0_; have BK157 := n1_; have HB := n2_; have BK159 := n3_; have GW159 := n4_; have GE159 := n5_; have NB157_159 := n6_; have NB159_157 := n7_; clear n0_ n1_ n2_ n3_ n4_ n5_ n6_ n7_; clear hb hbox hg; have hnb14 := NB159_157.out; have hnc14 := NB157_159.out; have hcz15_0 : w13.cell? ⟨gb159, 0, none⟩ = some (.int .i64 0) := (blk_cell BK159.out 0).trans rfl; have hcz15_1 : w13.cell? ⟨gb159, 1, none⟩ = some (.int .i64 0) := (blk_cell BK159.out 1).trans rfl; have hcz15_2 : w13.cell? ⟨gb159, 2, none⟩ = some (.int .i64 0) := (blk_cell BK159.out 2).trans rfl; have hfz15_0 := blk_frozen BK159.out 0; have hfz15_1 := blk_frozen BK159.out 1; have hfz15_2 := blk_frozen BK159.out 2) | ((with_reducible refine gate_callee (f := 33) rfl ?_); refine goesL_ (some 33) rfl rfl Try.func33 (by kernel_rfl) rfl #[.int .i64 a1, .int .i64 (wrap64 (a2 + x21_1)), .int .i64 a3, .int .i64 a4, .agg #[.int .i64 ((rd_T55 l5 x21_1).f0), .int .i64 ((rd_T55 l5 x21_1).f1), .int .i64 ((rd_T55 l5 x21_1).f2)]] rfl (by (try simp only [List.map_toArray, List.map_cons, List.map_nil]); first | done | rfl | (simp only [List.length_drop, List.length_take]; rfl)) ?_; (with_reducible refine (table_Sent.calls a1 (wrap64 (a2 + x21_1)) a3 a4 ((rd_T55 l5 x21_1).f0) ((rd_T55 l5 x21_1).f1) ((rd_T55 l5 x21_1).f2) t160 t161 t162 t163 t164 t165 _ A11.out).mono ?_); rintro e w16 ⟨rfl, hb⟩; refine ⟨_, rfl, ?_⟩; have n0_ := Aside0.mk (Kd.R_below (by (with_reducible repeat (first | apply Kd.R_alloc | apply Kd.R_drewN | apply Kd.R_drew)); exact (Kd.R_mono (Kd.R_far (p := ⟨gb159, 2, none⟩) (Kd.R_far (p := ⟨gb159, 1, none⟩) (Kd.R_far (p := ⟨gb159, 0, none⟩) (Kd.R_types HO_13.out BK159.out (by decide)) (fun _ hk => hk.2) (.int .i64 ((rd_T55 l5 x21_1).f0))) (fun _ hk => hk.2) (.int .i64 ((rd_T55 l5 x21_1).f1))) (fun _ hk => hk.2) (.int .i64 ((rd_T55 l5 x21_1).f2))) (fun _ h_ => h_.1))) hb); have n1_ := Aside0.mk (blk_below (g := gb157) (o := .cells #[.slice A0_0 l0_0.length c0_0, .slice A0_1 l0_1.length c0_1, .int .i64 a0_2] 25 (0, 0)) (by (with_reducible repeat (first | refine blk_drewN ?_ _ | refine blk_drew ?_ | refine blk_alloc ?_ _)); refine blk_far ?_ NB157_159.out _; (with_reducible repeat (first | refine blk_drewN ?_ _ | refine blk_drew ?_ | refine blk_alloc ?_ _)); refine blk_far ?_ NB157_159.out _; (with_reducible repeat (first | refine blk_drewN ?_ _ | refine blk_drew ?_ | refine blk_alloc ?_ _)); refine blk_far ?_ NB157_159.out _; (with_reducible repeat (first | refine blk_drewN ?_ _ | refine blk_drew ?_ | refine blk_alloc ?_ _)); exact BK157.out) hb); have n2_ := Aside0.mk (blk_below (g := gb159) (o := .cells #[.int .i64 ((rd_T55 l5 x21_1).f0), .int .i64 ((rd_T55 l5 x21_1).f1), .int .i64 ((rd_T55 l5 x21_1).f2)] 55 (0, 0)) (by (with_reducible repeat (first | refine blk_drewN ?_ _ | refine blk_drew ?_ | refine blk_alloc ?_ _)); refine blk_put (cs := #[.int .i64 ((rd_T55 l5 x21_1).f0), .int .i64 ((rd_T55 l5 x21_1).f1), .int .i64 0]) ?_ 2 _ rfl; (with_reducible repeat (first | refine blk_drewN ?_ _ | refine blk_drew ?_ | refine blk_alloc ?_ _)); refine blk_put (cs := #[.int .i64 ((rd_T55 l5 x21_1).f0), .int .i64 0, .int .i64 0]) ?_ 1 _ rfl; (with_reducible repeat (first | refine blk_drewN ?_ _ | refine blk_drew ?_ | refine blk_alloc ?_ _)); refine blk_put (cs := #[.int .i64 0, .int .i64 0, .int .i64 0]) ?_ 0 _ rfl; (with_reducible repeat (first | refine blk_drewN ?_ _ | refine blk_drew ?_ | refine blk_alloc ?_ _)); exact BK159.out) hb); have n3_ := Aside0.mk (below_step (by repeat (first | (with_reducible first | exact HB.out | apply below_alloc | apply pw_below_drewN | apply below_drew1 | refine below_set ?_ GE157.out | refine below_set ?_ GE159.out) | exact HB.out)) hb); clear HO_13; clear BK157; clear BK159; clear HB; have HO_13 := n0_; have BK157 := n1_; have BK159 := n2_; have HB := n3_; clear n0_ n1_ n2_ n3_; (try clear hb); (try clear hb2); (try clear hk); (try clear hi)) | ((with_reducible refine gate_dst (N := 16) rfl ?_); refine box_event ?hg (N := 16) ?hd (cs := #[.int .i64 0, .int .i64 0, .int .i64 0, .int .i64 0, .int .i64 0, .int .i64 0]) (t := 48) ?hr ?_; (case hd => rfl); (case hg => rfl); (case hr => first | (go_simp; done) | (go_simp; rfl)); intro gb166 hg w17 hbox hb; have n0_ := Aside0.mk (Kd.R_below (Kd.R_elderB (by (with_reducible repeat (first | apply Kd.R_alloc | apply Kd.R_drewN | apply Kd.R_drew)); exact HO_13.out) gb166 (Nat.le_of_eq hg.symm)) hb); have n1_ := Aside0.mk (blk_below (g := gb157) (o := .cells #[.slice A0_0 l0_0.length c0_0, .slice A0_1 l0_1.length c0_1, .int .i64 a0_2] 25 (0, 0)) (by (with_reducible repeat (first | refine blk_drewN ?_ _ | refine blk_drew ?_ | refine blk_alloc ?_ _)); exact BK157.out) hb); have n2_ := Aside0.mk (blk_below (g := gb159) (o := .cells #[.int .i64 ((rd_T55 l5 x21_1).f0), .int .i64 ((rd_T55 l5 x21_1).f1), .int .i64 ((rd_T55 l5 x21_1).f2)] 55 (0, 0)) (by (with_reducible repeat (first | refine blk_drewN ?_ _ | refine blk_drew ?_ | refine blk_alloc ?_ _)); exact BK159.out) hb); have n3_ := Aside0.mk (below_step (by repeat (first | (with_reducible first | exact HB.out | apply below_alloc | apply pw_below_drewN | apply below_drew1 | refine below_set ?_ GE157.out | refine below_set ?_ GE159.out) | exact HB.out)) hb); have n4_ := Aside0.mk (hbox); have n5_ := Aside0.mk ((by rw [hg]; exact (below_size (by repeat (first | (with_reducible first | exact HB.out | apply below_alloc | apply pw_below_drewN | apply below_drew1 | refine below_set ?_ GE157.out | refine below_set ?_ GE159.out) | exact HB.out))) : w.heap.size ≤ gb166)); have n6_ := Aside0.mk ((by rw [hg]; exact (below_size (by repeat (first | (with_reducible first | exact HB.out | apply below_alloc | apply pw_below_drewN | apply below_drew1 | refine below_set ?_ GE157.out | refine below_set ?_ GE159.out) | exact HB.out))) : w.heap.size ≤ gb166)); have n7_ := Aside0.mk ((by rw [hg]; exact Nat.ne_of_lt (blk_lt (g := gb157) (o := .cells #[.slice A0_0 l0_0.length c0_0, .slice A0_1 l0_1.length c0_1, .int .i64 a0_2] 25 (0, 0)) (by (with_reducible repeat (first | refine blk_drewN ?_ _ | refine blk_drew ?_ | refine blk_alloc ?_ _)); exact BK157.out)) : gb157 ≠ gb166)); have n8_ := Aside0.mk ((by rw [hg]; exact Nat.ne_of_gt (blk_lt (g := gb157) (o := .cells #[.slice A0_0 l0_0.length c0_0, .slice A0_1 l0_1.length c0_1, .int .i64 a0_2] 25 (0, 0)) (by (with_reducible repeat (first | refine blk_drewN ?_ _ | refine blk_drew ?_ | refine blk_alloc ?_ _)); exact BK157.out)) : gb166 ≠ gb157)); have n9_ := Aside0.mk ((by rw [hg]; exact Nat.ne_of_lt (blk_lt (g := gb159) (o := .cells #[.int .i64 ((rd_T55 l5 x21_1).f0), .int .i64 ((rd_T55 l5 x21_1).f1), .int .i64 ((rd_T55 l5 x21_1).f2)] 55 (0, 0)) (by (with_reducible repeat (first | refine blk_drewN ?_ _ | refine blk_drew ?_ | refine blk_alloc ?_ _)); exact BK159.out)) : gb159 ≠ gb166)); have n10_ := Aside0.mk ((by rw [hg]; exact Nat.ne_of_gt (blk_lt (g := gb159) (o := .cells #[.int .i64 ((rd_T55 l5 x21_1).f0), .int .i64 ((rd_T55 l5 x21_1).f1), .int .i64 ((rd_T55 l5 x21_1).f2)] 55 (0, 0)) (by (with_reducible repeat (first | refine blk_drewN ?_ _ | refine blk_drew ?_ | refine blk_alloc ?_ _)); exact BK159.out)) : gb166 ≠ gb159)); clear HO_13; clear BK157; clear BK159; clear HB; have HO_13 := n0_; have BK157 := n1_; have BK159 := n2_; have HB := n3_; have BK166 := n4_; have GW166 := n5_; have GE166 := n6_; have NB157_166 := n7_; have NB166_157 := n8_; have NB159_166 := n9_; have NB166_159 := n10_; clear n0_ n1_ n2_ n3_ n4_ n5_ n6_ n7_ n8_ n9_ n10_; clear hb hbox hg; have hnb18 := NB166_157.out; have hnc18 := NB157_166.out; have hnb19 := NB166_159.out; have hnc19 := NB159_166.out; have hcz20_0 : w17.cell? ⟨gb166, 0, none⟩ = some (.int .i64 0) := (blk_cell BK166.out 0).trans rfl; have hcz20_1 : w17.cell? ⟨gb166, 1, none⟩ = some (.int .i64 0) := (blk_cell BK166.out 1).trans rfl; have hcz20_2 : w17.cell? ⟨gb166, 2, none⟩ = some (.int .i64 0) := (blk_cell BK166.out 2).trans rfl; have hcz20_3 : w17.cell? ⟨gb166, 3, none⟩ = some (.int .i64 0) := (blk_cell BK166.out 3).trans rfl; have hcz20_4 : w17.cell? ⟨gb166, 4, none⟩ = some (.int .i64 0) := (blk_cell BK166.out 4).trans rfl; have hcz20_5 : w17.cell? ⟨gb166, 5, none⟩ = some (.int .i64 0) := (blk_cell BK166.out 5).trans rfl; have hfz20_0 := blk_frozen BK166.out 0; have hfz20_1 := blk_frozen BK166.out 1; have hfz20_2 := blk_frozen BK166.out 2; have hfz20_3 := blk_frozen BK166.out 3; have hfz20_4 := blk_frozen BK166.out 4; have hfz20_5 := blk_frozen BK166.out 5; have hcz21_0 : w17.cell? ⟨gb157, 0, none⟩ = some (.slice A0_0 l0_0.length c0_0) := (blk_cell BK157.out 0).trans rfl; have hcz21_1 : w17.cell? ⟨gb157, 1, none⟩ = some (.slice A0_1 l0_1.length c0_1) := (blk_cell BK157.out 1).trans rfl; have hcz21_2 : w17.cell? ⟨gb157, 2, none⟩ = some (.int .i64 a0_2) := (blk_cell BK157.out 2).trans rfl; have hfz21_0 := blk_frozen BK157.out 0; have hfz21_1 := blk_frozen BK157.out 1; have hfz21_2 := blk_frozen BK157.out 2) | ((with_reducible refine gate_callee (f := 13) rfl ?_); refine goesL_ (some 38) rfl rfl Try.func13 (by kernel_rfl) rfl #[.agg #[.slice A0_0 l0_0.length c0_0, .slice A0_1 l0_1.length c0_1, .int .i64 a0_2], .int .i64 a1, .int .i64 t164] rfl (by (try simp only [List.map_toArray, List.map_cons, List.map_nil]); first | done | rfl | (simp only [List.length_drop, List.length_take]; rfl)) ?_; (with_reducible refine (config_Routes.calls _ _ l0_0 _ _ l0_1 a0_2 a1 t164 t167 _ ?side1 ?side2 ?side3 ?side4 A12.out).mono ?_); (case side1 => exact Kd.C_below HR0_0.out (by repeat (first | (with_reducible first | exact HB.out | apply below_alloc | apply pw_below_drewN | apply below_drew1 | refine below_set ?_ GE157.out | refine below_set ?_ GE159.out | refine below_set ?_ GE166.out) | exact HB.out))); (case side2 => exact HC0_0.out); (case side3 => exact Kd.C_below HR0_1.out (by repeat (first | (with_reducible first | exact HB.out | apply below_alloc | apply pw_below_drewN | apply below_drew1 | refine below_set ?_ GE157.out | refine below_set ?_ GE159.out | refine below_set ?_ GE166.out) | exact HB.out))); (case side4 => exact HC0_1.out); rintro e w22 ⟨v168, rfl, ho0, hb⟩; refine ⟨_, rfl, ?_⟩; have n0_ := Aside0.mk (Kd.R_below (by (with_reducible repeat (first | apply Kd.R_alloc | apply Kd.R_drewN | apply Kd.R_drew)); exact (Kd.R_mono (Kd.R_far (p := ⟨gb166, 5, none⟩) (Kd.R_far (p := ⟨gb166, 4, none⟩) (Kd.R_far (p := ⟨gb166, 3, none⟩) (Kd.R_far (p := ⟨gb166, 2, none⟩) (Kd.R_far (p := ⟨gb166, 1, none⟩) (Kd.R_far (p := ⟨gb166, 0, none⟩) (Kd.R_mono HO_13.out (fun k_ hk => (⟨hk, hk.2⟩ : _ ∧ k_ ≠ gb166))) (fun _ hk => hk.2) (.int .i64 t160)) (fun _ hk => hk.2) (.int .i64 t161)) (fun _ hk => hk.2) (.int .i64 t162)) (fun _ hk => hk.2) (.int .i64 t163)) (fun _ hk => hk.2) (.int .i64 t164)) (fun _ hk => hk.2) (.int .i64 t165)) (fun _ h_ => h_.1))) hb); have n1_ := Aside0.mk (Kd.R_lower ho0 (below_size (by repeat (first | (with_reducible first | exact HB.out | apply below_alloc | apply pw_below_drewN | apply below_drew1 | refine below_set ?_ GE157.out | refine below_set ?_ GE159.out | refine below_set ?_ GE166.out) | exact HB.out)))); have n2_ := Aside0.mk (blk_below (g := gb157) (o := .cells #[.slice A0_0 l0_0.length c0_0, .slice A0_1 l0_1.length c0_1, .int .i64 a0_2] 25 (0, 0)) (by (with_reducible repeat (first | refine blk_drewN ?_ _ | refine blk_drew ?_ | refine blk_alloc ?_ _)); refine blk_far ?_ NB157_166.out _; (with_reducible repeat (first | refine blk_drewN ?_ _ | refine blk_drew ?_ | refine blk_alloc ?_ _)); refine blk_far ?_ NB157_166.out _; (with_reducible repeat (first | refine blk_drewN ?_ _ | refine blk_drew ?_ | refine blk_alloc ?_ _)); refine blk_far ?_ NB157_166.out _; (with_reducible repeat (first | refine blk_drewN ?_ _ | refine blk_drew ?_ | refine blk_alloc ?_ _)); refine blk_far ?_ NB157_166.out _; (with_reducible repeat (first | refine blk_drewN ?_ _ | refine blk_drew ?_ | refine blk_alloc ?_ _)); refine blk_far ?_ NB157_166.out _; (with_reducible repeat (first | refine blk_drewN ?_ _ | refine blk_drew ?_ | refine blk_alloc ?_ _)); refine blk_far ?_ NB157_166.out _; (with_reducible repeat (first | refine blk_drewN ?_ _ | refine blk_drew ?_ | refine blk_alloc ?_ _)); exact BK157.out) hb); have n3_ := Aside0.mk (blk_below (g := gb159) (o := .cells #[.int .i64 ((rd_T55 l5 x21_1).f0), .int .i64 ((rd_T55 l5 x21_1).f1), .int .i64 ((rd_T55 l5 x21_1).f2)] 55 (0, 0)) (by (with_reducible repeat (first | refine blk_drewN ?_ _ | refine blk_drew ?_ | refine blk_alloc ?_ _)); refine blk_far ?_ NB159_166.out _; (with_reducible repeat (first | refine blk_drewN ?_ _ | refine blk_drew ?_ | refine blk_alloc ?_ _)); refine blk_far ?_ NB159_166.out _; (with_reducible repeat (first | refine blk_drewN ?_ _ | refine blk_drew ?_ | refine blk_alloc ?_ _)); refine blk_far ?_ NB159_166.out _; (with_reducible repeat (first | refine blk_drewN ?_ _ | refine blk_drew ?_ | refine blk_alloc ?_ _)); refine blk_far ?_ NB159_166.out _; (with_reducible repeat (first | refine blk_drewN ?_ _ | refine blk_drew ?_ | refine blk_alloc ?_ _)); refine blk_far ?_ NB159_166.out _; (with_reducible repeat (first | refine blk_drewN ?_ _ | refine blk_drew ?_ | refine blk_alloc ?_ _)); refine blk_far ?_ NB159_166.out _; (with_reducible repeat (first | refine blk_drewN ?_ _ | refine blk_drew ?_ | refine blk_alloc ?_ _)); exact BK159.out) hb); have n4_ := Aside0.mk (blk_below (g := gb166) (o := .cells #[.int .i64 t160, .int .i64 t161, .int .i64 t162, .int .i64 t163, .int .i64 t164, .int .i64 t165] 48 (0, 0)) (by (with_reducible repeat (first | refine blk_drewN ?_ _ | refine blk_drew ?_ | refine blk_alloc ?_ _)); refine blk_put (cs := #[.int .i64 t160, .int .i64 t161, .int .i64 t162, .int .i64 t163, .int .i64 t164, .int .i64 0]) ?_ 5 _ rfl; (with_reducible repeat (first | refine blk_drewN ?_ _ | refine blk_drew ?_ | refine blk_alloc ?_ _)); refine blk_put (cs := #[.int .i64 t160, .int .i64 t161, .int .i64 t162, .int .i64 t163, .int .i64 0, .int .i64 0]) ?_ 4 _ rfl; (with_reducible repeat (first | refine blk_drewN ?_ _ | refine blk_drew ?_ | refine blk_alloc ?_ _)); refine blk_put (cs := #[.int .i64 t160, .int .i64 t161, .int .i64 t162, .int .i64 0, .int .i64 0, .int .i64 0]) ?_ 3 _ rfl; (with_reducible repeat (first | refine blk_drewN ?_ _ | refine blk_drew ?_ | refine blk_alloc ?_ _)); refine blk_put (cs := #[.int .i64 t160, .int .i64 t161, .int .i64 0, .int .i64 0, .int .i64 0, .int .i64 0]) ?_ 2 _ rfl; (with_reducible repeat (first | refine blk_drewN ?_ _ | refine blk_drew ?_ | refine blk_alloc ?_ _)); refine blk_put (cs := #[.int .i64 t160, .int .i64 0, .int .i64 0, .int .i64 0, .int .i64 0, .int .i64 0]) ?_ 1 _ rfl; (with_reducible repeat (first | refine blk_drewN ?_ _ | refine blk_drew ?_ | refine blk_alloc ?_ _)); refine blk_put (cs := #[.int .i64 0, .int .i64 0, .int .i64 0, .int .i64 0, .int .i64 0, .int .i64 0]) ?_ 0 _ rfl; (with_reducible repeat (first | refine blk_drewN ?_ _ | refine blk_drew ?_ | refine blk_alloc ?_ _)); exact BK166.out) hb); have n5_ := Aside0.mk (below_step (by repeat (first | (with_reducible first | exact HB.out | apply below_alloc | apply pw_below_drewN | apply below_drew1 | refine below_set ?_ GE157.out | refine below_set ?_ GE159.out | refine below_set ?_ GE166.out) | exact HB.out)) hb); clear HO_13; clear BK157; clear BK159; clear BK166; clear HB; have HO_13 := n0_; have HO169 := n1_; have BK157 := n2_; have BK159 := n3_; have BK166 := n4_; have HB := n5_; clear n0_ n1_ n2_ n3_ n4_ n5_; (try clear hb); (try clear hb2); (try clear hk); (try clear hi); (try clear ho0); obtain ⟨Ao23, co23, eo23⟩ := Kd.R_slice HO169.out; subst eo23))
      go_loopg [13, 40] k1 (fun kq v13 v40 w' => ∃ (x13_2 : List (S48)) (x40_2 : Int) (x167003_2 : Int), v40 = .int .i64 x40_2 ∧ Aside0 (config_Spread.l1 kq a1 a2 a3 a4 x13_2 l5 (l5.length : Int) x21_1 t167 (t167.length : Int) x40_2 l0_0 l0_1 a0_2 t160 t161 t162 x167003_2 t164 t165 = some r) ∧ Aside0 (kq ≤ k1) ∧ Aside0 (Kd.R k48 48 w' w.heap.size (fun k_ => k_ ≠ gb166) v13 x13_2) ∧ Aside0 (Kd.R (Kd.int .i64) 3 w' w.heap.size (fun _ => True) (.slice Ao23 t167.length co23) t167) ∧ Aside0 (w'.heap[gb157]? = some (.cells #[(.slice A0_0 l0_0.length c0_0), (.slice A0_1 l0_1.length c0_1), .int .i64 a0_2] 25 (0, 0))) ∧ Aside0 (w'.heap[gb159]? = some (.cells #[.int .i64 ((rd_T55 l5 x21_1).f0), .int .i64 ((rd_T55 l5 x21_1).f1), .int .i64 ((rd_T55 l5 x21_1).f2)] 55 (0, 0))) ∧ Aside0 (w'.heap[gb166]? = some (.cells #[.int .i64 t160, .int .i64 t161, .int .i64 t162, .int .i64 x167003_2, .int .i64 t164, .int .i64 t165] 48 (0, 0))) ∧ Aside0 (Below w.heap.size w w'))
      case atStart => exact ⟨(x13_1), (0), (t163), (by first | rfl | (simp; done) | (simp [*]; done)), H', ⟨Nat.le_refl _⟩, ⟨by (with_reducible repeat (first | apply Kd.R_alloc | apply Kd.R_drewN | apply Kd.R_drew)); exact Kd.R_mono HO_13.out (fun _ hk => hk.2)⟩, ⟨by (with_reducible repeat (first | apply Kd.R_alloc | apply Kd.R_drewN | apply Kd.R_drew)); exact HO169.out⟩, ⟨by (with_reducible repeat (first | refine blk_drewN ?_ _ | refine blk_drew ?_ | refine blk_alloc ?_ _)); exact BK157.out⟩, ⟨by (with_reducible repeat (first | refine blk_drewN ?_ _ | refine blk_drew ?_ | refine blk_alloc ?_ _)); exact BK159.out⟩, ⟨by (with_reducible repeat (first | refine blk_drewN ?_ _ | refine blk_drew ?_ | refine blk_alloc ?_ _)); exact BK166.out⟩, ⟨by repeat (first | (with_reducible first | exact HB.out | apply below_alloc | apply pw_below_drewN | apply below_drew1 | refine below_set ?_ GE157.out | refine below_set ?_ GE159.out | refine below_set ?_ GE166.out) | exact HB.out)⟩⟩
      case round =>
       clear H'
       try clear c1
       try clear p1
       try clear q1
       try clear hx1
       try clear p2
       try clear c3
       try clear c5
       try clear p6
       try clear c8
       try clear c8b0
       try clear c9
       try clear c9b0
       try clear c10
       try clear c10b0
       try clear c13
       try clear c14
       try clear p15
       try clear q15
       try clear hx15
       try clear c16
       try clear c18
       try clear c19
       try clear hcz15_0
       try clear hcz15_1
       try clear hcz15_2
       try clear hcz20_0
       try clear hcz20_1
       try clear hcz20_2
       try clear hcz20_3
       try clear hcz20_4
       try clear hcz20_5
       try clear hcz21_0
       try clear hcz21_1
       try clear hcz21_2
       try clear hfz15_0
       try clear hfz15_1
       try clear hfz15_2
       try clear hfz20_0
       try clear hfz20_1
       try clear hfz20_2
       try clear hfz20_3
       try clear hfz20_4
       try clear hfz20_5
       try clear hfz21_0
       try clear hfz21_1
       try clear hfz21_2
       try clear hx158_0
       try clear hx158_1
       try clear hx158_2
       try clear p158
       try clear p2
       try clear q158
       obtain ⟨x13_2, x40_2, x167003_2, rfl, HA, HK2, HO_13, HO_38, BK157, BK159, BK166, HB⟩ := hrel
       cases gk with
       | zero => exact absurd HA.out (by simp [config_Spread.l1])
       | succ k2 =>
        have H := HA.out
        clear HA
        simp only [config_Spread.l1] at H
        by_cases c24 : x40_2 < (t167.length : Int)
        ·rw [if_pos c24] at H
         have c24b0 : decide (x40_2 < (t167.length : Int)) = true := decide_eq_true c24
         clear c24
         by_cases c25 : 0 ≤ x40_2
         ·rw [if_pos c25] at H
          have c25b0 : decide (0 ≤ x40_2) = true := decide_eq_true c25
          clear c25
          by_cases c26 : x40_2 < (t167.length : Int)
          ·rw [if_pos c26] at H
           have c26b0 : decide (x40_2 < (t167.length : Int)) = true := decide_eq_true c26
           clear c26
           by_cases c27 : x13_2.length < 2932031007402
           ·rw [if_pos c27] at H
            have LMc27 := Aside0.mk c27
            clear c27
            obtain ⟨y171, hy171⟩ : ∃ y_ : List (S48), y_ = (x13_2 ++ [(⟨(⟨t160, t161, t162⟩ : S46), rd t167 x40_2, t164, t165⟩ : S48)]) := ⟨_, rfl⟩
            replace H : (config_Spread.l1 k2 a1 a2 a3 a4 y171 l5 (l5.length : Int) x21_1 t167 (t167.length : Int) (wrap64 (x40_2 + 1)) l0_0 l0_1 a0_2 t160 t161 t162 (rd t167 x40_2) t164 t165) = some r := by first | (rw [hy171]; with_reducible exact H) | (have H2_ := (Option.bind_some _ _).symm.trans H; rw [hy171]; with_reducible exact H2_) | (have H2_ := (Option.bind_some _ _).symm.trans H; with_reducible exact H2_) | with_reducible exact H | (rw [hy171]; exact H) | exact H
            have Ny171 := Aside0.mk hy171
            clear hy171
            have H' := Aside0.mk H
            clear H
            have p170 : 0 ≤ (x40_2 : Int) := of_decide_eq_true (by first | (with_reducible assumption) | assumption)
            have q170 : x40_2 < (t167.length : Int) := of_decide_eq_true (by first | (with_reducible assumption) | assumption)
            obtain ⟨ad170, e170, hx170_0⟩ := Kd.at_int (Kd.R_reads' HO_38.out).2.2 x40_2 p170 q170
            cases e170
            replace p170 := eq_true p170
            replace q170 := eq_true q170
            have hnb28 := NB166_157.out
            have hnc28 := NB157_166.out
            have hnb29 := NB166_159.out
            have hnc29 := NB159_166.out
            have hcz30_0 : wr.cell? ⟨gb166, 0, none⟩ = some (.int .i64 t160) := (blk_cell BK166.out 0).trans rfl
            have hcz30_1 : wr.cell? ⟨gb166, 1, none⟩ = some (.int .i64 t161) := (blk_cell BK166.out 1).trans rfl
            have hcz30_2 : wr.cell? ⟨gb166, 2, none⟩ = some (.int .i64 t162) := (blk_cell BK166.out 2).trans rfl
            have hcz30_3 : wr.cell? ⟨gb166, 3, none⟩ = some (.int .i64 x167003_2) := (blk_cell BK166.out 3).trans rfl
            have hcz30_4 : wr.cell? ⟨gb166, 4, none⟩ = some (.int .i64 t164) := (blk_cell BK166.out 4).trans rfl
            have hcz30_5 : wr.cell? ⟨gb166, 5, none⟩ = some (.int .i64 t165) := (blk_cell BK166.out 5).trans rfl
            have hfz30_0 := blk_frozen BK166.out 0
            have hfz30_1 := blk_frozen BK166.out 1
            have hfz30_2 := blk_frozen BK166.out 2
            have hfz30_3 := blk_frozen BK166.out 3
            have hfz30_4 := blk_frozen BK166.out 4
            have hfz30_5 := blk_frozen BK166.out 5
            go_wp2_with (first | ((with_reducible refine gate_builtin (b := .append) (xs := #[.tmp 46, .tmp 48]) rfl ?_); at_builtin; refine Kd.R_append k48 (w0 := w) w.heap.size rfl (.tmp 46) (.tmp 48) 34 48 (.agg #[(.int .i64 0), (.int .i64 0), (.int .i64 0), (.int .i64 0), (.int .i64 0), (.int .i64 0)]) 48 rfl Try.underlying34 info48 rfl (by decide) (by omega) u13 x13_2 (⟨(⟨t160, t161, t162⟩ : S46), rd t167 x40_2, t164, t165⟩ : S48) [.int .i64 t160, .int .i64 t161, .int .i64 t162, .int .i64 (rd t167 x40_2), .int .i64 t164, .int .i64 t165] (fun k_ => k_ ≠ gb166) (fun _ => False) rfl (by first | (go_simp; done) | (go_simp; rfl)) ?aP (fun _ hk => hk.elim) ?aF ?aO ?aB ?aS ?aL ?_; (case aP => exact k48_mkM _ _ _ (⟨(⟨t160, t161, t162⟩ : S46), rd t167 x40_2, t164, t165⟩ : S48)); (case aB => exact (by repeat (first | (with_reducible first | exact HB.out | apply below_alloc | apply pw_below_drewN | apply below_drew1 | refine below_set ?_ GE157.out | refine below_set ?_ GE159.out | refine below_set ?_ GE166.out) | exact HB.out))); (case aF => exact (fun k_ hk => Kd.freshB (g := gb166) (o := .cells #[.int .i64 t160, .int .i64 t161, .int .i64 t162, .int .i64 (rd t167 x40_2), .int .i64 t164, .int .i64 t165] 48 (0, 0)) (by (with_reducible repeat (first | refine blk_drewN ?_ _ | refine blk_drew ?_ | refine blk_alloc ?_ _)); refine blk_put (cs := #[.int .i64 t160, .int .i64 t161, .int .i64 t162, .int .i64 x167003_2, .int .i64 t164, .int .i64 t165]) ?_ 3 _ rfl; (with_reducible repeat (first | refine blk_drewN ?_ _ | refine blk_drew ?_ | refine blk_alloc ?_ _)); exact BK166.out) k_ hk)); (case aO => exact (by (with_reducible repeat (first | apply Kd.R_alloc | apply Kd.R_drewN | apply Kd.R_drew)); exact Kd.R_mono (Kd.R_far (p := ⟨gb166, 3, none⟩) (Kd.R_mono HO_13.out (fun k_ hk => (⟨hk, hk⟩ : _ ∧ k_ ≠ gb166))) (fun _ hk => hk.2) (.int .i64 (rd t167 x40_2))) (fun _ hk => hk.1))); (case aS => exact (below_size (by repeat (first | (with_reducible first | exact HB.out | apply below_alloc | apply pw_below_drewN | apply below_drew1 | refine below_set ?_ GE157.out | refine below_set ?_ GE159.out | refine below_set ?_ GE166.out) | exact HB.out)))); (case aL => have := LMc27.out; omega); intro v172 w31 ho hb hg hat; rw [← Ny171.out] at ho; have n0_ := Aside0.mk (Kd.R_over' (by (with_reducible repeat (first | apply Kd.R_alloc | apply Kd.R_drewN | apply Kd.R_drew)); exact (Kd.R_mono (Kd.R_far (p := ⟨gb166, 3, none⟩) (Kd.R_types HO_38.out BK166.out (by decide)) (fun _ hk => hk.2) (.int .i64 (rd t167 x40_2))) (fun _ h_ => h_.1))) (Kd.R_typed (by (with_reducible repeat (first | apply Kd.R_alloc | apply Kd.R_drewN | apply Kd.R_drew)); exact (Kd.R_mono (Kd.R_far (p := ⟨gb166, 3, none⟩) (Kd.R_mono HO_13.out (fun k_ hk => (⟨hk, hk⟩ : _ ∧ k_ ≠ gb166))) (fun _ hk => hk.2) (.int .i64 (rd t167 x40_2))) (fun _ h_ => h_.1)))) (by decide) hg); have n1_ := Aside0.mk (blk_grown (g := gb157) (o := .cells #[.slice A0_0 l0_0.length c0_0, .slice A0_1 l0_1.length c0_1, .int .i64 a0_2] 25 (0, 0)) (by (with_reducible repeat (first | refine blk_drewN ?_ _ | refine blk_drew ?_ | refine blk_alloc ?_ _)); refine blk_far ?_ NB157_166.out _; (with_reducible repeat (first | refine blk_drewN ?_ _ | refine blk_drew ?_ | refine blk_alloc ?_ _)); exact BK157.out) hg (Kd.R_ne HO_13.out BK157.out (by decide))); have n2_ := Aside0.mk (blk_grown (g := gb159) (o := .cells #[.int .i64 ((rd_T55 l5 x21_1).f0), .int .i64 ((rd_T55 l5 x21_1).f1), .int .i64 ((rd_T55 l5 x21_1).f2)] 55 (0, 0)) (by (with_reducible repeat (first | refine blk_drewN ?_ _ | refine blk_drew ?_ | refine blk_alloc ?_ _)); refine blk_far ?_ NB159_166.out _; (with_reducible repeat (first | refine blk_drewN ?_ _ | refine blk_drew ?_ | refine blk_alloc ?_ _)); exact BK159.out) hg (Kd.R_ne HO_13.out BK159.out (by decide))); have n3_ := Aside0.mk (blk_grown (g := gb166) (o := .cells #[.int .i64 t160, .int .i64 t161, .int .i64 t162, .int .i64 (rd t167 x40_2), .int .i64 t164, .int .i64 t165] 48 (0, 0)) (by (with_reducible repeat (first | refine blk_drewN ?_ _ | refine blk_drew ?_ | refine blk_alloc ?_ _)); refine blk_put (cs := #[.int .i64 t160, .int .i64 t161, .int .i64 t162, .int .i64 x167003_2, .int .i64 t164, .int .i64 t165]) ?_ 3 _ rfl; (with_reducible repeat (first | refine blk_drewN ?_ _ | refine blk_drew ?_ | refine blk_alloc ?_ _)); exact BK166.out) hg (Kd.R_away HO_13.out (fun _ hk => hk))); have n4_ := Aside0.mk (hb); have n5_ := Aside0.mk (ho); clear HO_38; clear BK157; clear BK159; clear BK166; clear HB; clear HO_13; have HO_38 := n0_; have BK157 := n1_; have BK159 := n2_; have BK166 := n3_; have HB := n4_; have HO173 := n5_; clear n0_ n1_ n2_ n3_ n4_ n5_; clear ho hb hg hat))
            go_roundg k2
            case measure => have := HK1.out; have := HK2.out; omega
            case rel => exact ⟨(y171), (wrap64 (x40_2 + 1)), (rd t167 x40_2), (by first | rfl | (simp; done) | (simp [*]; done)), H', ⟨by have := HK1.out; have := HK2.out; omega⟩, ⟨by (with_reducible repeat (first | apply Kd.R_alloc | apply Kd.R_drewN | apply Kd.R_drew)); exact HO173.out⟩, ⟨by (with_reducible repeat (first | apply Kd.R_alloc | apply Kd.R_drewN | apply Kd.R_drew)); exact HO_38.out⟩, ⟨by (with_reducible repeat (first | refine blk_drewN ?_ _ | refine blk_drew ?_ | refine blk_alloc ?_ _)); exact BK157.out⟩, ⟨by (with_reducible repeat (first | refine blk_drewN ?_ _ | refine blk_drew ?_ | refine blk_alloc ?_ _)); exact BK159.out⟩, ⟨by (with_reducible repeat (first | refine blk_drewN ?_ _ | refine blk_drew ?_ | refine blk_alloc ?_ _)); exact BK166.out⟩, ⟨by repeat (first | (with_reducible first | exact HB.out | apply below_alloc | apply pw_below_drewN | apply below_drew1 | refine below_set ?_ GE157.out | refine below_set ?_ GE159.out | refine below_set ?_ GE166.out) | exact HB.out)⟩⟩
           ·rw [if_neg c27] at H
            exact absurd H (by simp)
          ·rw [if_neg c26] at H
           exact absurd H (by simp)
         ·rw [if_neg c25] at H
          exact absurd H (by simp)
        ·rw [if_neg c24] at H
         have c24b0 : decide (x40_2 < (t167.length : Int)) = false := decide_eq_false c24
         clear c24
         have H' := Aside0.mk H
         clear H
         go_wp2
         go_roundg k2
         case measure => have := HK1.out; have := HK2.out; omega
         case rel => exact ⟨(x13_2), (wrap64 (x21_1 + 1)), (by first | rfl | (simp; done) | (simp [*]; done)), H', ⟨by have := HK1.out; have := HK2.out; omega⟩, ⟨by (with_reducible repeat (first | apply Kd.R_alloc | apply Kd.R_drewN | apply Kd.R_drew)); exact Kd.R_mono HO_13.out (fun _ hk => trivial)⟩, ⟨by (with_reducible repeat (first | refine blk_drewN ?_ _ | refine blk_drew ?_ | refine blk_alloc ?_ _)); exact BK157.out⟩, ⟨by repeat (first | (with_reducible first | exact HB.out | apply below_alloc | apply pw_below_drewN | apply below_drew1 | refine below_set ?_ GE157.out | refine below_set ?_ GE159.out | refine below_set ?_ GE166.out) | exact HB.out)⟩⟩
     ·rw [if_neg c10] at H
      exact absurd H (by simp)
    ·rw [if_neg c9] at H
     exact absurd H (by simp)
   ·rw [if_neg c8] at H
    have c8b0 : decide (x21_1 < (l5.length : Int)) = false := decide_eq_false c8
    clear c8
    obtain rfl := Option.some.inj H
    go_wp2
    go_ret
    exact ⟨_, by first | rfl | (simp [errW_none, errW_some] <;> rfl) | (simp [*, errW_none, errW_some] <;> rfl), by (with_reducible repeat (first | apply Kd.R_alloc | apply Kd.R_drewN | apply Kd.R_drew)); exact HO_13.out, by repeat (first | (with_reducible first | exact HB.out | apply below_alloc | apply pw_below_drewN | apply below_drew1 | refine below_set ?_ GE157.out) | exact HB.out)⟩

/-! ### config_Starts: function 18 -/
def config_Starts.l0 : Nat → List (S48) → List (S42) → Int → Int → List Int → List (S42) → Int → Option ((List (S48)))
  | 0, _, _, _, _, _, _, _ => none
  | k + 1, x3, x7, x8, x9, x175000, x175001, x175002 => if x9 < x8 then (if 0 ≤ x9 then (if x9 < (x7.length : Int) then ((config_Spread.f k x175000 x175001 x175002 x9 0 0 0 ((rd_T42 x7 x9).f6)).bind fun t177 => (if x3.length + t177.length < 2932031007402 then (config_Starts.l0 k (x3 ++ t177) x7 x8 (wrap64 (x9 + 1)) x175000 x175001 x175002) else (none))) else (none)) else (none)) else (some x3)
def config_Starts.f (k : Nat) (l0_0 : List Int) (l0_1 : List (S42)) (a0_2 : Int) : Option ((List (S48))) := config_Starts.l0 k ([] : List (S48)) l0_1 (l0_1.length : Int) 0 l0_0 l0_1 a0_2
theorem config_Starts.mono_l : ∀ k, (∀ y0 y1 y2 y3 y4 y5 y6, LeO (config_Starts.l0 k y0 y1 y2 y3 y4 y5 y6) (config_Starts.l0 (k + 1) y0 y1 y2 y3 y4 y5 y6))
  | 0 => fun _ _ _ _ _ _ _ r h => by simp [config_Starts.l0] at h
  | k + 1 => by
    have ih0 := config_Starts.mono_l k
    · intro y0 y1 y2 y3 y4 y5 y6
      unfold config_Starts.l0
      repeat' first
      | (with_reducible exact ih0 _ _ _ _ _ _ _)
      | (with_reducible exact config_Spread.mono _ _ _ _ _ _ _ _ _)
      | (with_reducible exact LeO.refl _)
      | (with_reducible exact LeO.none _)
      | (with_reducible refine LeO.ite ?_ ?_)
      | (with_reducible refine LeO.bind ?_ (fun _ => ?_))
      | exact ih0 _ _ _ _ _ _ _
      | exact config_Spread.mono _ _ _ _ _ _ _ _ _
      | exact LeO.none _
      | refine LeO.ite ?_ ?_
      | refine LeO.bind ?_ (fun _ => ?_)
theorem config_Starts.mono : ∀ a0 a1 a2 k, LeO (config_Starts.f k a0 a1 a2) (config_Starts.f (k + 1) a0 a1 a2) := by
  intro a0 a1 a2 k
  have ih0 := config_Starts.mono_l k
  unfold config_Starts.f
  repeat' first
      | (with_reducible exact ih0 _ _ _ _ _ _ _)
      | (with_reducible exact config_Spread.mono _ _ _ _ _ _ _ _ _)
      | (with_reducible exact LeO.refl _)
      | (with_reducible exact LeO.none _)
      | (with_reducible refine LeO.ite ?_ ?_)
      | (with_reducible refine LeO.bind ?_ (fun _ => ?_))
      | exact ih0 _ _ _ _ _ _ _
      | exact config_Spread.mono _ _ _ _ _ _ _ _ _
      | exact LeO.none _
      | refine LeO.ite ?_ ?_
      | refine LeO.bind ?_ (fun _ => ?_)
set_option maxHeartbeats 8000000 in
set_option maxRecDepth 100000 in
theorem config_Starts.calls (k : Nat) (A0_0 : Option Addr) (c0_0 : Nat) (l0_0 : List Int) (A0_1 : Option Addr) (c0_1 : Nat) (l0_1 : List (S42)) (a0_2 : Int) (r : List (S48)) (w : World) (hr0_0 : Kd.C (Kd.int .i64) w A0_0 l0_0.length l0_0) (hc0_0 : l0_0.length ≤ c0_0) (hr0_1 : Kd.C k42 w A0_1 l0_1.length l0_1) (hc0_1 : l0_1.length ≤ c0_1) (h : config_Starts.f k l0_0 l0_1 a0_2 = some r) :
    Calls Try.prog 18 #[.agg #[.slice A0_0 l0_0.length c0_0, .slice A0_1 l0_1.length c0_1, .int .i64 a0_2]] w fun e w' => ∃ v0_ : Value, e = .returned (v0_) ∧ Kd.R k48 48 w' w.heap.size (fun _ => True) v0_ r ∧ Below w.heap.size w w' := by
  have hu25 := Try.underlying25
  have hu42 := Try.underlying42
  have HR0_0 := Aside0.mk hr0_0
  have HC0_0 := Aside0.mk hc0_0
  clear hr0_0 hc0_0
  have HR0_1 := Aside0.mk hr0_1
  have HC0_1 := Aside0.mk hc0_1
  clear hr0_1 hc0_1
  have HB := Aside0.mk (Below.refl w.heap.size w)
  have H : (config_Starts.l0 k ([] : List (S48)) l0_1 (l0_1.length : Int) 0 l0_0 l0_1 a0_2) = some r := h
  clear h
  have H' := Aside0.mk H
  clear H
  go_enter Try.func18, Try.ntmps18
  go_wp2_with (first | ((with_reducible refine gate_dst (N := 1) rfl ?_); refine box_event ?hg (N := 1) ?hd (cs := #[.slice A0_0 l0_0.length c0_0, .slice A0_1 l0_1.length c0_1, .int .i64 a0_2]) (t := 25) ?hr ?_; (case hd => rfl); (case hg => rfl); (case hr => first | (go_simp; done) | (go_simp; rfl)); intro gb174 hg w2 hbox hb; have n0_ := Aside0.mk (below_step (by repeat (first | (with_reducible first | exact HB.out | apply below_alloc | apply pw_below_drewN | apply below_drew1) | exact HB.out)) hb); have n1_ := Aside0.mk (hbox); have n2_ := Aside0.mk ((by rw [hg]; exact (below_size (by repeat (first | (with_reducible first | exact HB.out | apply below_alloc | apply pw_below_drewN | apply below_drew1) | exact HB.out))) : w.heap.size ≤ gb174)); have n3_ := Aside0.mk ((by rw [hg]; exact (below_size (by repeat (first | (with_reducible first | exact HB.out | apply below_alloc | apply pw_below_drewN | apply below_drew1) | exact HB.out))) : w.heap.size ≤ gb174)); clear HB; have HB := n0_; have BK174 := n1_; have GW174 := n2_; have GE174 := n3_; clear n0_ n1_ n2_ n3_; clear hb hbox hg; have hcz3_0 : w2.cell? ⟨gb174, 0, none⟩ = some (.slice A0_0 l0_0.length c0_0) := (blk_cell BK174.out 0).trans rfl; have hcz3_1 : w2.cell? ⟨gb174, 1, none⟩ = some (.slice A0_1 l0_1.length c0_1) := (blk_cell BK174.out 1).trans rfl; have hcz3_2 : w2.cell? ⟨gb174, 2, none⟩ = some (.int .i64 a0_2) := (blk_cell BK174.out 2).trans rfl; have hfz3_0 := blk_frozen BK174.out 0; have hfz3_1 := blk_frozen BK174.out 1; have hfz3_2 := blk_frozen BK174.out 2))
  go_loopg [3, 9] k (fun kq v3 v9 w' => ∃ (x3_1 : List (S48)) (x9_1 : Int), v9 = .int .i64 x9_1 ∧ Aside0 (config_Starts.l0 kq x3_1 l0_1 (l0_1.length : Int) x9_1 l0_0 l0_1 a0_2 = some r) ∧ Aside0 (kq ≤ k) ∧ Aside0 (Kd.R k48 48 w' w.heap.size (fun _ => True) v3 x3_1) ∧ Aside0 (w'.heap[gb174]? = some (.cells #[(.slice A0_0 l0_0.length c0_0), (.slice A0_1 l0_1.length c0_1), .int .i64 a0_2] 25 (0, 0))) ∧ Aside0 (Below w.heap.size w w'))
  case atStart => exact ⟨(([] : List (S48))), (0), (by first | rfl | (simp; done) | (simp [*]; done)), H', ⟨Nat.le_refl _⟩, ⟨by first | exact Kd.R_nil _ _ _ _ _ | exact Kd.N_nil _ _ _ _ _ | exact Kd.V_nil _ _ _ _ _ | exact Kd.Q_nil _ _ _ _ _ | exact Kd.S_nil _ _ _ _ _⟩, ⟨by (with_reducible repeat (first | refine blk_drewN ?_ _ | refine blk_drew ?_ | refine blk_alloc ?_ _)); exact BK174.out⟩, ⟨by repeat (first | (with_reducible first | exact HB.out | apply below_alloc | apply pw_below_drewN | apply below_drew1 | refine below_set ?_ GE174.out) | exact HB.out)⟩⟩
  case round =>
    clear H'
    try clear c1
    try clear p2
    try clear hcz3_0
    try clear hcz3_1
    try clear hcz3_2
    try clear hfz3_0
    try clear hfz3_1
    try clear hfz3_2
    obtain ⟨x3_1, x9_1, rfl, HA, HK1, HO_3, BK174, HB⟩ := hrel
    cases gk with
    | zero => exact absurd HA.out (by simp [config_Starts.l0])
    | succ k1 =>
      have H := HA.out
      clear HA
      simp only [config_Starts.l0] at H
      by_cases c4 : x9_1 < (l0_1.length : Int)
      · rw [if_pos c4] at H
        have c4b0 : decide (x9_1 < (l0_1.length : Int)) = true := decide_eq_true c4
        clear c4
        by_cases c5 : 0 ≤ x9_1
        · rw [if_pos c5] at H
          have c5b0 : decide (0 ≤ x9_1) = true := decide_eq_true c5
          clear c5
          by_cases c6 : x9_1 < (l0_1.length : Int)
          · rw [if_pos c6] at H
            have c6b0 : decide (x9_1 < (l0_1.length : Int)) = true := decide_eq_true c6
            clear c6
            replace H := Option.bind_eq_some_iff.mp H
            obtain ⟨t177, A70, H⟩ := H
            replace H : (if x3_1.length + t177.length < 2932031007402 then (config_Starts.l0 k1 (x3_1 ++ t177) l0_1 (l0_1.length : Int) (wrap64 (x9_1 + 1)) l0_0 l0_1 a0_2) else (none)) = some r := H
            have A7 := Aside0.mk A70
            clear A70
            by_cases c8 : x3_1.length + t177.length < 2932031007402
            · rw [if_pos c8] at H
              have LMc8 := Aside0.mk c8
              clear c8
              obtain ⟨y180, hy180⟩ : ∃ y_ : List (S48), y_ = (x3_1 ++ t177) := ⟨_, rfl⟩
              replace H : (config_Starts.l0 k1 y180 l0_1 (l0_1.length : Int) (wrap64 (x9_1 + 1)) l0_0 l0_1 a0_2) = some r := by first | (rw [hy180]; with_reducible exact H) | (have H2_ := (Option.bind_some _ _).symm.trans H; rw [hy180]; with_reducible exact H2_) | (have H2_ := (Option.bind_some _ _).symm.trans H; with_reducible exact H2_) | with_reducible exact H | (rw [hy180]; exact H) | exact H
              have Ny180 := Aside0.mk hy180
              clear hy180
              have H' := Aside0.mk H
              clear H
              have p175 : 0 ≤ (x9_1 : Int) := of_decide_eq_true (by first | (with_reducible assumption) | assumption)
              have q175 : x9_1 < (l0_1.length : Int) := of_decide_eq_true (by first | (with_reducible assumption) | assumption)
              obtain ⟨ad175, A175_3, c175_3, A175_4, c175_4, A175_5, c175_5, A175_6, c175_6, e175, hx175_0, hx175_1, hx175_2, hx175_3, hx175_4, hx175_5, hx175_6, hl175_3, hi175_3, hl175_4, hi175_4, hl175_5, hi175_5, hl175_6, hi175_6⟩ := at_T42 HR0_1.out x9_1 p175 q175
              cases e175
              replace hx175_0 := (HB.out.cell (World.block_lt_of_cell? w _ hx175_0)).trans hx175_0
              replace hx175_1 := (HB.out.cell (World.block_lt_of_cell? w _ hx175_1)).trans hx175_1
              replace hx175_2 := (HB.out.cell (World.block_lt_of_cell? w _ hx175_2)).trans hx175_2
              replace hx175_3 := (HB.out.cell (World.block_lt_of_cell? w _ hx175_3)).trans hx175_3
              replace hx175_4 := (HB.out.cell (World.block_lt_of_cell? w _ hx175_4)).trans hx175_4
              replace hx175_5 := (HB.out.cell (World.block_lt_of_cell? w _ hx175_5)).trans hx175_5
              replace hx175_6 := (HB.out.cell (World.block_lt_of_cell? w _ hx175_6)).trans hx175_6
              have HR175_3 := Aside0.mk hi175_3
              have HC175_3 := Aside0.mk hl175_3
              clear hi175_3 hl175_3
              have HR175_4 := Aside0.mk hi175_4
              have HC175_4 := Aside0.mk hl175_4
              clear hi175_4 hl175_4
              have HR175_5 := Aside0.mk hi175_5
              have HC175_5 := Aside0.mk hl175_5
              clear hi175_5 hl175_5
              have HR175_6 := Aside0.mk hi175_6
              have HC175_6 := Aside0.mk hl175_6
              clear hi175_6 hl175_6
              replace p175 := eq_true p175
              replace q175 := eq_true q175
              go_wp2_with (first | ((with_reducible refine gate_dst (N := 5) rfl ?_); refine box_event ?hg (N := 5) ?hd (cs := #[.int .i64 0, .int .i64 0, .int .i64 0, .slice none 0 0, .slice none 0 0, .slice none 0 0, .slice none 0 0]) (t := 42) ?hr ?_; (case hd => rfl); (case hg => rfl); (case hr => first | (go_simp; done) | (go_simp; rfl)); intro gb176 hg w9 hbox hb; have n0_ := Aside0.mk (Kd.R_below (by (with_reducible repeat (first | apply Kd.R_alloc | apply Kd.R_drewN | apply Kd.R_drew)); exact HO_3.out) hb); have n1_ := Aside0.mk (blk_below (g := gb174) (o := .cells #[.slice A0_0 l0_0.length c0_0, .slice (some ad175) l0_1.length c0_1, .int .i64 a0_2] 25 (0, 0)) (by (with_reducible repeat (first | refine blk_drewN ?_ _ | refine blk_drew ?_ | refine blk_alloc ?_ _)); exact BK174.out) hb); have n2_ := Aside0.mk (below_step (by repeat (first | (with_reducible first | exact HB.out | apply below_alloc | apply pw_below_drewN | apply below_drew1 | refine below_set ?_ GE174.out) | exact HB.out)) hb); have n3_ := Aside0.mk (hbox); have n4_ := Aside0.mk ((by rw [hg]; exact (below_size (by repeat (first | (with_reducible first | exact HB.out | apply below_alloc | apply pw_below_drewN | apply below_drew1 | refine below_set ?_ GE174.out) | exact HB.out))) : w.heap.size ≤ gb176)); have n5_ := Aside0.mk ((by rw [hg]; exact (below_size (by repeat (first | (with_reducible first | exact HB.out | apply below_alloc | apply pw_below_drewN | apply below_drew1 | refine below_set ?_ GE174.out) | exact HB.out))) : w.heap.size ≤ gb176)); have n6_ := Aside0.mk ((by rw [hg]; exact Nat.ne_of_lt (blk_lt (g := gb174) (o := .cells #[.slice A0_0 l0_0.length c0_0, .slice (some ad175) l0_1.length c0_1, .int .i64 a0_2] 25 (0, 0)) (by (with_reducible repeat (first | refine blk_drewN ?_ _ | refine blk_drew ?_ | refine blk_alloc ?_ _)); exact BK174.out)) : gb174 ≠ gb176)); have n7_ := Aside0.mk ((by rw [hg]; exact Nat.ne_of_gt (blk_lt (g := gb174) (o := .cells #[.slice A0_0 l0_0.length c0_0, .slice (some ad175) l0_1.length c0_1, .int .i64 a0_2] 25 (0, 0)) (by (with_reducible repeat (first | refine blk_drewN ?_ _ | refine blk_drew ?_ | refine blk_alloc ?_ _)); exact BK174.out)) : gb176 ≠ gb174)); clear HO_3; clear BK174; clear HB; have HO_3 := n0_; have BK174 := n1_; have HB := n2_; have BK176 := n3_; have GW176 := n4_; have GE176 := n5_; have NB174_176 := n6_; have NB176_174 := n7_; clear n0_ n1_ n2_ n3_ n4_ n5_ n6_ n7_; clear hb hbox hg; have hnb10 := NB176_174.out; have hnc10 := NB174_176.out; have hcz11_0 : w9.cell? ⟨gb176, 0, none⟩ = some (.int .i64 0) := (blk_cell BK176.out 0).trans rfl; have hcz11_1 : w9.cell? ⟨gb176, 1, none⟩ = some (.int .i64 0) := (blk_cell BK176.out 1).trans rfl; have hcz11_2 : w9.cell? ⟨gb176, 2, none⟩ = some (.int .i64 0) := (blk_cell BK176.out 2).trans rfl; have hcz11_3 : w9.cell? ⟨gb176, 3, none⟩ = some (.slice none 0 0) := (blk_cell BK176.out 3).trans rfl; have hcz11_4 : w9.cell? ⟨gb176, 4, none⟩ = some (.slice none 0 0) := (blk_cell BK176.out 4).trans rfl; have hcz11_5 : w9.cell? ⟨gb176, 5, none⟩ = some (.slice none 0 0) := (blk_cell BK176.out 5).trans rfl; have hcz11_6 : w9.cell? ⟨gb176, 6, none⟩ = some (.slice none 0 0) := (blk_cell BK176.out 6).trans rfl; have hfz11_0 := blk_frozen BK176.out 0; have hfz11_1 := blk_frozen BK176.out 1; have hfz11_2 := blk_frozen BK176.out 2; have hfz11_3 := blk_frozen BK176.out 3; have hfz11_4 := blk_frozen BK176.out 4; have hfz11_5 := blk_frozen BK176.out 5; have hfz11_6 := blk_frozen BK176.out 6; have hcz12_0 : w9.cell? ⟨gb174, 0, none⟩ = some (.slice A0_0 l0_0.length c0_0) := (blk_cell BK174.out 0).trans rfl; have hcz12_1 : w9.cell? ⟨gb174, 1, none⟩ = some (.slice (some ad175) l0_1.length c0_1) := (blk_cell BK174.out 1).trans rfl; have hcz12_2 : w9.cell? ⟨gb174, 2, none⟩ = some (.int .i64 a0_2) := (blk_cell BK174.out 2).trans rfl; have hfz12_0 := blk_frozen BK174.out 0; have hfz12_1 := blk_frozen BK174.out 1; have hfz12_2 := blk_frozen BK174.out 2) | ((with_reducible refine gate_callee (f := 16) rfl ?_); refine goesL_ (some 19) rfl rfl Try.func16 (by kernel_rfl) rfl #[.agg #[.slice A0_0 l0_0.length c0_0, .slice (some ad175) l0_1.length c0_1, .int .i64 a0_2], .int .i64 x9_1, .int .i64 0, .int .i64 0, .int .i64 0, .slice A175_6 ((rd_T42 l0_1 x9_1).f6).length c175_6] rfl (by (try simp only [List.map_toArray, List.map_cons, List.map_nil]); first | done | rfl | (simp only [List.length_drop, List.length_take]; rfl)) ?_; (with_reducible refine (config_Spread.calls k1 _ _ l0_0 _ _ l0_1 a0_2 x9_1 0 0 0 _ _ ((rd_T42 l0_1 x9_1).f6) t177 _ ?side1 ?side2 ?side3 ?side4 ?side5 ?side6 A7.out).mono ?_); (case side1 => exact Kd.C_below HR0_0.out (by repeat (first | (with_reducible first | exact HB.out | apply below_alloc | apply pw_below_drewN | apply below_drew1 | refine below_set ?_ GE174.out | refine below_set ?_ GE176.out) | exact HB.out))); (case side2 => exact HC0_0.out); (case side3 => exact Kd.C_below HR0_1.out (by repeat (first | (with_reducible first | exact HB.out | apply below_alloc | apply pw_below_drewN | apply below_drew1 | refine below_set ?_ GE174.out | refine below_set ?_ GE176.out) | exact HB.out))); (case side4 => exact HC0_1.out); (case side5 => exact Kd.C_below HR175_6.out (by repeat (first | (with_reducible first | exact HB.out | apply below_alloc | apply pw_below_drewN | apply below_drew1 | refine below_set ?_ GE174.out | refine below_set ?_ GE176.out) | exact HB.out))); (case side6 => exact HC175_6.out); rintro e w13 ⟨v178, rfl, ho0, hb⟩; refine ⟨_, rfl, ?_⟩; have n0_ := Aside0.mk (Kd.R_elder' (by (with_reducible repeat (first | apply Kd.R_alloc | apply Kd.R_drewN | apply Kd.R_drew)); exact (Kd.R_mono (Kd.R_far (p := ⟨gb176, 6, none⟩) (Kd.R_far (p := ⟨gb176, 5, none⟩) (Kd.R_far (p := ⟨gb176, 4, none⟩) (Kd.R_far (p := ⟨gb176, 3, none⟩) (Kd.R_far (p := ⟨gb176, 2, none⟩) (Kd.R_far (p := ⟨gb176, 1, none⟩) (Kd.R_far (p := ⟨gb176, 0, none⟩) (Kd.R_types HO_3.out BK176.out (by decide)) (fun _ hk => hk.2) (.int .i64 ((rd_T42 l0_1 x9_1).f0))) (fun _ hk => hk.2) (.int .i64 ((rd_T42 l0_1 x9_1).f1))) (fun _ hk => hk.2) (.int .i64 ((rd_T42 l0_1 x9_1).f2))) (fun _ hk => hk.2) (.slice A175_3 ((rd_T42 l0_1 x9_1).f3).length c175_3)) (fun _ hk => hk.2) (.slice A175_4 ((rd_T42 l0_1 x9_1).f4).length c175_4)) (fun _ hk => hk.2) (.slice A175_5 ((rd_T42 l0_1 x9_1).f5).length c175_5)) (fun _ hk => hk.2) (.slice A175_6 ((rd_T42 l0_1 x9_1).f6).length c175_6)) (fun _ h_ => h_.1))) (Kd.R_base ho0) hb); have n1_ := Aside0.mk (Kd.R_lower (Kd.R_new' ho0 (Kd.R_lt (by (with_reducible repeat (first | apply Kd.R_alloc | apply Kd.R_drewN | apply Kd.R_drew)); exact (Kd.R_mono (Kd.R_far (p := ⟨gb176, 6, none⟩) (Kd.R_far (p := ⟨gb176, 5, none⟩) (Kd.R_far (p := ⟨gb176, 4, none⟩) (Kd.R_far (p := ⟨gb176, 3, none⟩) (Kd.R_far (p := ⟨gb176, 2, none⟩) (Kd.R_far (p := ⟨gb176, 1, none⟩) (Kd.R_far (p := ⟨gb176, 0, none⟩) (Kd.R_types HO_3.out BK176.out (by decide)) (fun _ hk => hk.2) (.int .i64 ((rd_T42 l0_1 x9_1).f0))) (fun _ hk => hk.2) (.int .i64 ((rd_T42 l0_1 x9_1).f1))) (fun _ hk => hk.2) (.int .i64 ((rd_T42 l0_1 x9_1).f2))) (fun _ hk => hk.2) (.slice A175_3 ((rd_T42 l0_1 x9_1).f3).length c175_3)) (fun _ hk => hk.2) (.slice A175_4 ((rd_T42 l0_1 x9_1).f4).length c175_4)) (fun _ hk => hk.2) (.slice A175_5 ((rd_T42 l0_1 x9_1).f5).length c175_5)) (fun _ hk => hk.2) (.slice A175_6 ((rd_T42 l0_1 x9_1).f6).length c175_6)) (fun _ h_ => h_.1))))) (below_size (by repeat (first | (with_reducible first | exact HB.out | apply below_alloc | apply pw_below_drewN | apply below_drew1 | refine below_set ?_ GE174.out | refine below_set ?_ GE176.out) | exact HB.out)))); have n2_ := Aside0.mk (blk_below (g := gb174) (o := .cells #[.slice A0_0 l0_0.length c0_0, .slice (some ad175) l0_1.length c0_1, .int .i64 a0_2] 25 (0, 0)) (by (with_reducible repeat (first | refine blk_drewN ?_ _ | refine blk_drew ?_ | refine blk_alloc ?_ _)); refine blk_far ?_ NB174_176.out _; (with_reducible repeat (first | refine blk_drewN ?_ _ | refine blk_drew ?_ | refine blk_alloc ?_ _)); refine blk_far ?_ NB174_176.out _; (with_reducible repeat (first | refine blk_drewN ?_ _ | refine blk_drew ?_ | refine blk_alloc ?_ _)); refine blk_far ?_ NB174_176.out _; (with_reducible repeat (first | refine blk_drewN ?_ _ | refine blk_drew ?_ | refine blk_alloc ?_ _)); refine blk_far ?_ NB174_176.out _; (with_reducible repeat (first | refine blk_drewN ?_ _ | refine blk_drew ?_ | refine blk_alloc ?_ _)); refine blk_far ?_ NB174_176.out _; (with_reducible repeat (first | refine blk_drewN ?_ _ | refine blk_drew ?_ | refine blk_alloc ?_ _)); refine blk_far ?_ NB174_176.out _; (with_reducible repeat (first | refine blk_drewN ?_ _ | refine blk_drew ?_ | refine blk_alloc ?_ _)); refine blk_far ?_ NB174_176.out _; (with_reducible repeat (first | refine blk_drewN ?_ _ | refine blk_drew ?_ | refine blk_alloc ?_ _)); exact BK174.out) hb); have n3_ := Aside0.mk (blk_below (g := gb176) (o := .cells #[.int .i64 ((rd_T42 l0_1 x9_1).f0), .int .i64 ((rd_T42 l0_1 x9_1).f1), .int .i64 ((rd_T42 l0_1 x9_1).f2), .slice A175_3 ((rd_T42 l0_1 x9_1).f3).length c175_3, .slice A175_4 ((rd_T42 l0_1 x9_1).f4).length c175_4, .slice A175_5 ((rd_T42 l0_1 x9_1).f5).length c175_5, .slice A175_6 ((rd_T42 l0_1 x9_1).f6).length c175_6] 42 (0, 0)) (by (with_reducible repeat (first | refine blk_drewN ?_ _ | refine blk_drew ?_ | refine blk_alloc ?_ _)); refine blk_put (cs := #[.int .i64 ((rd_T42 l0_1 x9_1).f0), .int .i64 ((rd_T42 l0_1 x9_1).f1), .int .i64 ((rd_T42 l0_1 x9_1).f2), .slice A175_3 ((rd_T42 l0_1 x9_1).f3).length c175_3, .slice A175_4 ((rd_T42 l0_1 x9_1).f4).length c175_4, .slice A175_5 ((rd_T42 l0_1 x9_1).f5).length c175_5, .slice none 0 0]) ?_ 6 _ rfl; (with_reducible repeat (first | refine blk_drewN ?_ _ | refine blk_drew ?_ | refine blk_alloc ?_ _)); refine blk_put (cs := #[.int .i64 ((rd_T42 l0_1 x9_1).f0), .int .i64 ((rd_T42 l0_1 x9_1).f1), .int .i64 ((rd_T42 l0_1 x9_1).f2), .slice A175_3 ((rd_T42 l0_1 x9_1).f3).length c175_3, .slice A175_4 ((rd_T42 l0_1 x9_1).f4).length c175_4, .slice none 0 0, .slice none 0 0]) ?_ 5 _ rfl; (with_reducible repeat (first | refine blk_drewN ?_ _ | refine blk_drew ?_ | refine blk_alloc ?_ _)); refine blk_put (cs := #[.int .i64 ((rd_T42 l0_1 x9_1).f0), .int .i64 ((rd_T42 l0_1 x9_1).f1), .int .i64 ((rd_T42 l0_1 x9_1).f2), .slice A175_3 ((rd_T42 l0_1 x9_1).f3).length c175_3, .slice none 0 0, .slice none 0 0, .slice none 0 0]) ?_ 4 _ rfl; (with_reducible repeat (first | refine blk_drewN ?_ _ | refine blk_drew ?_ | refine blk_alloc ?_ _)); refine blk_put (cs := #[.int .i64 ((rd_T42 l0_1 x9_1).f0), .int .i64 ((rd_T42 l0_1 x9_1).f1), .int .i64 ((rd_T42 l0_1 x9_1).f2), .slice none 0 0, .slice none 0 0, .slice none 0 0, .slice none 0 0]) ?_ 3 _ rfl; (with_reducible repeat (first | refine blk_drewN ?_ _ | refine blk_drew ?_ | refine blk_alloc ?_ _)); refine blk_put (cs := #[.int .i64 ((rd_T42 l0_1 x9_1).f0), .int .i64 ((rd_T42 l0_1 x9_1).f1), .int .i64 0, .slice none 0 0, .slice none 0 0, .slice none 0 0, .slice none 0 0]) ?_ 2 _ rfl; (with_reducible repeat (first | refine blk_drewN ?_ _ | refine blk_drew ?_ | refine blk_alloc ?_ _)); refine blk_put (cs := #[.int .i64 ((rd_T42 l0_1 x9_1).f0), .int .i64 0, .int .i64 0, .slice none 0 0, .slice none 0 0, .slice none 0 0, .slice none 0 0]) ?_ 1 _ rfl; (with_reducible repeat (first | refine blk_drewN ?_ _ | refine blk_drew ?_ | refine blk_alloc ?_ _)); refine blk_put (cs := #[.int .i64 0, .int .i64 0, .int .i64 0, .slice none 0 0, .slice none 0 0, .slice none 0 0, .slice none 0 0]) ?_ 0 _ rfl; (with_reducible repeat (first | refine blk_drewN ?_ _ | refine blk_drew ?_ | refine blk_alloc ?_ _)); exact BK176.out) hb); have n4_ := Aside0.mk (below_step (by repeat (first | (with_reducible first | exact HB.out | apply below_alloc | apply pw_below_drewN | apply below_drew1 | refine below_set ?_ GE174.out | refine below_set ?_ GE176.out) | exact HB.out)) hb); clear HO_3; clear BK174; clear BK176; clear HB; have HO_3 := n0_; have HO179 := n1_; have BK174 := n2_; have BK176 := n3_; have HB := n4_; clear n0_ n1_ n2_ n3_ n4_; (try clear hb); (try clear hb2); (try clear hk); (try clear hi); (try clear ho0); obtain ⟨Ao15, co15, eo15⟩ := Kd.R_slice HO179.out; subst eo15) | ((with_reducible refine gate_builtin (b := .append) (xs := #[.tmp 14, .tmp 19]) rfl ?_); at_builtin; refine Kd.R_append_rows k48 (w0 := w) w.heap.size rfl (.tmp 14) (.tmp 19) 34 48 (.agg #[(.int .i64 0), (.int .i64 0), (.int .i64 0), (.int .i64 0), (.int .i64 0), (.int .i64 0)]) 48 rfl Try.underlying34 info48 rfl (by decide) (by omega) u3 x3_1 t177 _ _ _ (fun k_ => some k_ ≠ (.slice Ao15 t177.length co15 : Value).ownBlock) (fun _ => False) rfl rfl ?aO ?aR (fun _ _ h => h) (fun _ h => h.elim) ?aF ?aB ?aS ?aL ?_; (case aR => repeat (first | exact (Kd.R_reads' HO179.out).2.2 | (with_reducible refine Kd.C_alloc ?_ _) | (with_reducible refine Kd.C_drewN ?_ _) | (with_reducible refine Kd.C_drew ?_))); (case aB => exact (by repeat (first | (with_reducible first | exact HB.out | apply below_alloc | apply pw_below_drewN | apply below_drew1 | refine below_set ?_ GE174.out | refine below_set ?_ GE176.out) | exact HB.out))); (case aF => exact (fun k_ hk => Kd.fresh' (Kd.R_lt (by (with_reducible repeat (first | apply Kd.R_alloc | apply Kd.R_drewN | apply Kd.R_drew)); exact HO179.out)) k_ hk)); (case aO => exact (by (with_reducible repeat (first | apply Kd.R_alloc | apply Kd.R_drewN | apply Kd.R_drew)); exact Kd.R_mono HO_3.out (fun _ hk => hk.2))); (case aS => exact (below_size (by repeat (first | (with_reducible first | exact HB.out | apply below_alloc | apply pw_below_drewN | apply below_drew1 | refine below_set ?_ GE174.out | refine below_set ?_ GE176.out) | exact HB.out)))); (case aL => have := LMc8.out; omega); intro v181 w14 ho hb hg hat; rw [← Ny180.out] at ho; have n0_ := Aside0.mk (blk_grown (g := gb174) (o := .cells #[.slice A0_0 l0_0.length c0_0, .slice (some ad175) l0_1.length c0_1, .int .i64 a0_2] 25 (0, 0)) (by (with_reducible repeat (first | refine blk_drewN ?_ _ | refine blk_drew ?_ | refine blk_alloc ?_ _)); exact BK174.out) hg (Kd.R_ne HO_3.out BK174.out (by decide))); have n1_ := Aside0.mk (blk_grown (g := gb176) (o := .cells #[.int .i64 ((rd_T42 l0_1 x9_1).f0), .int .i64 ((rd_T42 l0_1 x9_1).f1), .int .i64 ((rd_T42 l0_1 x9_1).f2), .slice A175_3 ((rd_T42 l0_1 x9_1).f3).length c175_3, .slice A175_4 ((rd_T42 l0_1 x9_1).f4).length c175_4, .slice A175_5 ((rd_T42 l0_1 x9_1).f5).length c175_5, .slice A175_6 ((rd_T42 l0_1 x9_1).f6).length c175_6] 42 (0, 0)) (by (with_reducible repeat (first | refine blk_drewN ?_ _ | refine blk_drew ?_ | refine blk_alloc ?_ _)); exact BK176.out) hg (Kd.R_ne HO_3.out BK176.out (by decide))); have n2_ := Aside0.mk (Kd.R_after (ok := (fun _ => True)) (by (with_reducible repeat (first | apply Kd.R_alloc | apply Kd.R_drewN | apply Kd.R_drew)); exact HO179.out) hg hat); have n3_ := Aside0.mk (hb); have n4_ := Aside0.mk (ho); clear BK174; clear BK176; clear HO179; clear HB; clear HO_3; have BK174 := n0_; have BK176 := n1_; have HO179 := n2_; have HB := n3_; have HO182 := n4_; clear n0_ n1_ n2_ n3_ n4_; clear ho hb hg hat))
              go_roundg k1
              case measure => have := HK1.out; omega
              case rel => exact ⟨(y180), (wrap64 (x9_1 + 1)), (by first | rfl | (simp; done) | (simp [*]; done)), H', ⟨by have := HK1.out; omega⟩, ⟨by (with_reducible repeat (first | apply Kd.R_alloc | apply Kd.R_drewN | apply Kd.R_drew)); exact Kd.R_mono HO182.out (fun _ hk => trivial)⟩, ⟨by (with_reducible repeat (first | refine blk_drewN ?_ _ | refine blk_drew ?_ | refine blk_alloc ?_ _)); exact BK174.out⟩, ⟨by repeat (first | (with_reducible first | exact HB.out | apply below_alloc | apply pw_below_drewN | apply below_drew1 | refine below_set ?_ GE174.out | refine below_set ?_ GE176.out) | exact HB.out)⟩⟩
            · rw [if_neg c8] at H
              exact absurd H (by simp)
          · rw [if_neg c6] at H
            exact absurd H (by simp)
        · rw [if_neg c5] at H
          exact absurd H (by simp)
      · rw [if_neg c4] at H
        have c4b0 : decide (x9_1 < (l0_1.length : Int)) = false := decide_eq_false c4
        clear c4
        obtain rfl := Option.some.inj H
        go_wp2
        go_ret
        exact ⟨_, by first | rfl | (simp [errW_none, errW_some] <;> rfl) | (simp [*, errW_none, errW_some] <;> rfl), by (with_reducible repeat (first | apply Kd.R_alloc | apply Kd.R_drewN | apply Kd.R_drew)); exact HO_3.out, by repeat (first | (with_reducible first | exact HB.out | apply below_alloc | apply pw_below_drewN | apply below_drew1 | refine below_set ?_ GE174.out) | exact HB.out)⟩

/-! ### pacelinelaw08_shown: function 12 (by hand) -/
def pacelinelaw08_shown.f : Option Bool := some true
theorem pacelinelaw08_shown.one {α : Type} (d : Kd α) (x : α) (c : List Value) (b : Nat) (t : TypeId) (w : World) (h : w.heap[b]? = some (.cells c.toArray t (0, 0))) (hl : c.length = d.sz) (hK : d.K w x c) : d.C w (some ⟨b, 0, none⟩) 1 [x] := by
  refine ⟨rfl, by decide, fun _ => ⟨⟨b, 0, none⟩, rfl, fun j y hj => ?_⟩⟩
  match j, hj with
  | 0, hj =>
    simp at hj
    subst hj
    refine ⟨c, hl, hK, fun i u hu => ?_⟩
    rw [add_plain, blk_cell h]
    simpa using hu
  | j + 1, hj => simp at hj
theorem pacelinelaw08_shown.two {α : Type} (d : Kd α) (x0 x1 : α) (c0 c1 : List Value) (b : Nat) (t : TypeId) (w : World) (h : w.heap[b]? = some (.cells (c0 ++ c1).toArray t (0, 0))) (h0 : c0.length = d.sz) (h1 : c1.length = d.sz) (k0 : d.K w x0 c0) (k1 : d.K w x1 c1) : d.C w (some ⟨b, 0, none⟩) 2 [x0, x1] := by
  refine ⟨rfl, by decide, fun _ => ⟨⟨b, 0, none⟩, rfl, fun j y hj => ?_⟩⟩
  match j, hj with
  | 0, hj =>
    simp at hj
    subst hj
    refine ⟨c0, h0, k0, fun i u hu => ?_⟩
    rw [add_plain, blk_cell h]
    obtain ⟨hi, _⟩ := List.getElem?_eq_some_iff.1 hu
    simp only [Nat.zero_mul, Nat.zero_add, List.getElem?_toArray]
    rw [List.getElem?_append_left hi]
    exact hu
  | 1, hj =>
    simp at hj
    subst hj
    refine ⟨c1, h1, k1, fun i u hu => ?_⟩
    rw [add_plain, blk_cell h]
    simp only [Nat.one_mul, Nat.zero_add, List.getElem?_toArray]
    rw [List.getElem?_append_right (by omega), h0, Nat.add_sub_cancel_left]
    exact hu
  | j + 2, hj => simp at hj
theorem pacelinelaw08_shown.nil {α : Type} (d : Kd α) (w : World) : d.C w none 0 [] := ⟨rfl, by decide, fun h => absurd h (by omega)⟩
def pacelinelaw08_shown.x0 : S42 := ⟨0, 1, 0, [], [0], [], [⟨0, 4, 2⟩]⟩
def pacelinelaw08_shown.x1 : S42 := ⟨0, 1, 0, [], [], [0], []⟩
def pacelinelaw08_shown.m : S48 := ⟨⟨4, 0, 0⟩, 1, 0, 2⟩
theorem pacelinelaw08_shown.starts : config_Starts.f 40 [-1] [pacelinelaw08_shown.x0, pacelinelaw08_shown.x1] 9 = some [pacelinelaw08_shown.m] := by kernel_rfl
theorem pacelinelaw08_shown.check : config_Check.f [-1] [pacelinelaw08_shown.x0, pacelinelaw08_shown.x1] 9 = some (-1, 0) := by kernel_rfl
set_option maxRecDepth 100000 in
set_option maxHeartbeats 4000000 in
theorem pacelinelaw08_shown.calls (r : Bool) (w : World) (h : pacelinelaw08_shown.f = some r) :
    Calls Try.prog 12 #[] w fun e w' => e = .returned (.bool r) ∧ Below w.heap.size w w' := by
  obtain rfl := Option.some.inj h
  clear h
  have B0 : Aside0 (((((((w.alloc (.cells #[.int .i64 (-1)] 3 (0, 0))).alloc (.cells #[.int .i64 0] 3 (0, 0))).alloc (.cells #[.int .i64 0, .int .i64 4, .int .i64 2] 55 (0, 0))).alloc (.cells #[.int .i64 0] 3 (0, 0))).alloc (.cells #[.int .i64 0, .int .i64 1, .int .i64 0, .slice none 0 0, .slice (some ⟨w.heap.size + 1, 0, none⟩) 1 1, .slice none 0 0, .slice (some ⟨w.heap.size + 1 + 1, 0, none⟩) 1 1, .int .i64 0, .int .i64 1, .int .i64 0, .slice none 0 0, .slice none 0 0, .slice (some ⟨w.heap.size + 1 + 1 + 1, 0, none⟩) 1 1, .slice none 0 0] 42 (0, 0))).alloc (.cells #[.slice (some ⟨w.heap.size, 0, none⟩) 1 1, .slice (some ⟨w.heap.size + 1 + 1 + 1 + 1, 0, none⟩) 2 2, .int .i64 9] 25 (0, 0))).heap[w.heap.size]? = some (.cells #[.int .i64 (-1)] 3 (0, 0))) := ⟨blk_alloc (blk_alloc (blk_alloc (blk_alloc (blk_alloc (blk_new w (.cells #[.int .i64 (-1)] 3 (0, 0))) _) _) _) _) _⟩
  have B1 : Aside0 (((((((w.alloc (.cells #[.int .i64 (-1)] 3 (0, 0))).alloc (.cells #[.int .i64 0] 3 (0, 0))).alloc (.cells #[.int .i64 0, .int .i64 4, .int .i64 2] 55 (0, 0))).alloc (.cells #[.int .i64 0] 3 (0, 0))).alloc (.cells #[.int .i64 0, .int .i64 1, .int .i64 0, .slice none 0 0, .slice (some ⟨w.heap.size + 1, 0, none⟩) 1 1, .slice none 0 0, .slice (some ⟨w.heap.size + 1 + 1, 0, none⟩) 1 1, .int .i64 0, .int .i64 1, .int .i64 0, .slice none 0 0, .slice none 0 0, .slice (some ⟨w.heap.size + 1 + 1 + 1, 0, none⟩) 1 1, .slice none 0 0] 42 (0, 0))).alloc (.cells #[.slice (some ⟨w.heap.size, 0, none⟩) 1 1, .slice (some ⟨w.heap.size + 1 + 1 + 1 + 1, 0, none⟩) 2 2, .int .i64 9] 25 (0, 0))).heap[w.heap.size + 1]? = some (.cells #[.int .i64 0] 3 (0, 0))) := ⟨blk_alloc (blk_alloc (blk_alloc (blk_alloc (by simpa using blk_new (w.alloc (.cells #[.int .i64 (-1)] 3 (0, 0))) (.cells #[.int .i64 0] 3 (0, 0))) _) _) _) _⟩
  have B2 : Aside0 (((((((w.alloc (.cells #[.int .i64 (-1)] 3 (0, 0))).alloc (.cells #[.int .i64 0] 3 (0, 0))).alloc (.cells #[.int .i64 0, .int .i64 4, .int .i64 2] 55 (0, 0))).alloc (.cells #[.int .i64 0] 3 (0, 0))).alloc (.cells #[.int .i64 0, .int .i64 1, .int .i64 0, .slice none 0 0, .slice (some ⟨w.heap.size + 1, 0, none⟩) 1 1, .slice none 0 0, .slice (some ⟨w.heap.size + 1 + 1, 0, none⟩) 1 1, .int .i64 0, .int .i64 1, .int .i64 0, .slice none 0 0, .slice none 0 0, .slice (some ⟨w.heap.size + 1 + 1 + 1, 0, none⟩) 1 1, .slice none 0 0] 42 (0, 0))).alloc (.cells #[.slice (some ⟨w.heap.size, 0, none⟩) 1 1, .slice (some ⟨w.heap.size + 1 + 1 + 1 + 1, 0, none⟩) 2 2, .int .i64 9] 25 (0, 0))).heap[w.heap.size + 1 + 1]? = some (.cells #[.int .i64 0, .int .i64 4, .int .i64 2] 55 (0, 0))) := ⟨blk_alloc (blk_alloc (blk_alloc (by simpa using blk_new ((w.alloc (.cells #[.int .i64 (-1)] 3 (0, 0))).alloc (.cells #[.int .i64 0] 3 (0, 0))) (.cells #[.int .i64 0, .int .i64 4, .int .i64 2] 55 (0, 0))) _) _) _⟩
  have B3 : Aside0 (((((((w.alloc (.cells #[.int .i64 (-1)] 3 (0, 0))).alloc (.cells #[.int .i64 0] 3 (0, 0))).alloc (.cells #[.int .i64 0, .int .i64 4, .int .i64 2] 55 (0, 0))).alloc (.cells #[.int .i64 0] 3 (0, 0))).alloc (.cells #[.int .i64 0, .int .i64 1, .int .i64 0, .slice none 0 0, .slice (some ⟨w.heap.size + 1, 0, none⟩) 1 1, .slice none 0 0, .slice (some ⟨w.heap.size + 1 + 1, 0, none⟩) 1 1, .int .i64 0, .int .i64 1, .int .i64 0, .slice none 0 0, .slice none 0 0, .slice (some ⟨w.heap.size + 1 + 1 + 1, 0, none⟩) 1 1, .slice none 0 0] 42 (0, 0))).alloc (.cells #[.slice (some ⟨w.heap.size, 0, none⟩) 1 1, .slice (some ⟨w.heap.size + 1 + 1 + 1 + 1, 0, none⟩) 2 2, .int .i64 9] 25 (0, 0))).heap[w.heap.size + 1 + 1 + 1]? = some (.cells #[.int .i64 0] 3 (0, 0))) := ⟨blk_alloc (blk_alloc (by simpa using blk_new (((w.alloc (.cells #[.int .i64 (-1)] 3 (0, 0))).alloc (.cells #[.int .i64 0] 3 (0, 0))).alloc (.cells #[.int .i64 0, .int .i64 4, .int .i64 2] 55 (0, 0))) (.cells #[.int .i64 0] 3 (0, 0))) _) _⟩
  have B4 : Aside0 (((((((w.alloc (.cells #[.int .i64 (-1)] 3 (0, 0))).alloc (.cells #[.int .i64 0] 3 (0, 0))).alloc (.cells #[.int .i64 0, .int .i64 4, .int .i64 2] 55 (0, 0))).alloc (.cells #[.int .i64 0] 3 (0, 0))).alloc (.cells #[.int .i64 0, .int .i64 1, .int .i64 0, .slice none 0 0, .slice (some ⟨w.heap.size + 1, 0, none⟩) 1 1, .slice none 0 0, .slice (some ⟨w.heap.size + 1 + 1, 0, none⟩) 1 1, .int .i64 0, .int .i64 1, .int .i64 0, .slice none 0 0, .slice none 0 0, .slice (some ⟨w.heap.size + 1 + 1 + 1, 0, none⟩) 1 1, .slice none 0 0] 42 (0, 0))).alloc (.cells #[.slice (some ⟨w.heap.size, 0, none⟩) 1 1, .slice (some ⟨w.heap.size + 1 + 1 + 1 + 1, 0, none⟩) 2 2, .int .i64 9] 25 (0, 0))).heap[w.heap.size + 1 + 1 + 1 + 1]? = some (.cells #[.int .i64 0, .int .i64 1, .int .i64 0, .slice none 0 0, .slice (some ⟨w.heap.size + 1, 0, none⟩) 1 1, .slice none 0 0, .slice (some ⟨w.heap.size + 1 + 1, 0, none⟩) 1 1, .int .i64 0, .int .i64 1, .int .i64 0, .slice none 0 0, .slice none 0 0, .slice (some ⟨w.heap.size + 1 + 1 + 1, 0, none⟩) 1 1, .slice none 0 0] 42 (0, 0))) := ⟨blk_alloc (by simpa using blk_new ((((w.alloc (.cells #[.int .i64 (-1)] 3 (0, 0))).alloc (.cells #[.int .i64 0] 3 (0, 0))).alloc (.cells #[.int .i64 0, .int .i64 4, .int .i64 2] 55 (0, 0))).alloc (.cells #[.int .i64 0] 3 (0, 0))) (.cells #[.int .i64 0, .int .i64 1, .int .i64 0, .slice none 0 0, .slice (some ⟨w.heap.size + 1, 0, none⟩) 1 1, .slice none 0 0, .slice (some ⟨w.heap.size + 1 + 1, 0, none⟩) 1 1, .int .i64 0, .int .i64 1, .int .i64 0, .slice none 0 0, .slice none 0 0, .slice (some ⟨w.heap.size + 1 + 1 + 1, 0, none⟩) 1 1, .slice none 0 0] 42 (0, 0))) _⟩
  have B5 : Aside0 (((((((w.alloc (.cells #[.int .i64 (-1)] 3 (0, 0))).alloc (.cells #[.int .i64 0] 3 (0, 0))).alloc (.cells #[.int .i64 0, .int .i64 4, .int .i64 2] 55 (0, 0))).alloc (.cells #[.int .i64 0] 3 (0, 0))).alloc (.cells #[.int .i64 0, .int .i64 1, .int .i64 0, .slice none 0 0, .slice (some ⟨w.heap.size + 1, 0, none⟩) 1 1, .slice none 0 0, .slice (some ⟨w.heap.size + 1 + 1, 0, none⟩) 1 1, .int .i64 0, .int .i64 1, .int .i64 0, .slice none 0 0, .slice none 0 0, .slice (some ⟨w.heap.size + 1 + 1 + 1, 0, none⟩) 1 1, .slice none 0 0] 42 (0, 0))).alloc (.cells #[.slice (some ⟨w.heap.size, 0, none⟩) 1 1, .slice (some ⟨w.heap.size + 1 + 1 + 1 + 1, 0, none⟩) 2 2, .int .i64 9] 25 (0, 0))).heap[w.heap.size + 1 + 1 + 1 + 1 + 1]? = some (.cells #[.slice (some ⟨w.heap.size, 0, none⟩) 1 1, .slice (some ⟨w.heap.size + 1 + 1 + 1 + 1, 0, none⟩) 2 2, .int .i64 9] 25 (0, 0))) := ⟨by simpa using blk_new (((((w.alloc (.cells #[.int .i64 (-1)] 3 (0, 0))).alloc (.cells #[.int .i64 0] 3 (0, 0))).alloc (.cells #[.int .i64 0, .int .i64 4, .int .i64 2] 55 (0, 0))).alloc (.cells #[.int .i64 0] 3 (0, 0))).alloc (.cells #[.int .i64 0, .int .i64 1, .int .i64 0, .slice none 0 0, .slice (some ⟨w.heap.size + 1, 0, none⟩) 1 1, .slice none 0 0, .slice (some ⟨w.heap.size + 1 + 1, 0, none⟩) 1 1, .int .i64 0, .int .i64 1, .int .i64 0, .slice none 0 0, .slice none 0 0, .slice (some ⟨w.heap.size + 1 + 1 + 1, 0, none⟩) 1 1, .slice none 0 0] 42 (0, 0))) (.cells #[.slice (some ⟨w.heap.size, 0, none⟩) 1 1, .slice (some ⟨w.heap.size + 1 + 1 + 1 + 1, 0, none⟩) 2 2, .int .i64 9] 25 (0, 0))⟩
  have BW0 : Aside0 (Below w.heap.size w ((((((w.alloc (.cells #[.int .i64 (-1)] 3 (0, 0))).alloc (.cells #[.int .i64 0] 3 (0, 0))).alloc (.cells #[.int .i64 0, .int .i64 4, .int .i64 2] 55 (0, 0))).alloc (.cells #[.int .i64 0] 3 (0, 0))).alloc (.cells #[.int .i64 0, .int .i64 1, .int .i64 0, .slice none 0 0, .slice (some ⟨w.heap.size + 1, 0, none⟩) 1 1, .slice none 0 0, .slice (some ⟨w.heap.size + 1 + 1, 0, none⟩) 1 1, .int .i64 0, .int .i64 1, .int .i64 0, .slice none 0 0, .slice none 0 0, .slice (some ⟨w.heap.size + 1 + 1 + 1, 0, none⟩) 1 1, .slice none 0 0] 42 (0, 0))).alloc (.cells #[.slice (some ⟨w.heap.size, 0, none⟩) 1 1, .slice (some ⟨w.heap.size + 1 + 1 + 1 + 1, 0, none⟩) 2 2, .int .i64 9] 25 (0, 0)))) := ⟨by repeat (first | exact Below.refl _ _ | apply below_alloc)⟩
  go_enter Try.func12, Try.ntmps12
  go_wp2_with fail
  generalize hW : ((((((w.alloc (.cells #[.int .i64 (-1)] 3 (0, 0))).alloc (.cells #[.int .i64 0] 3 (0, 0))).alloc (.cells #[.int .i64 0, .int .i64 4, .int .i64 2] 55 (0, 0))).alloc (.cells #[.int .i64 0] 3 (0, 0))).alloc (.cells #[.int .i64 0, .int .i64 1, .int .i64 0, .slice none 0 0, .slice (some ⟨w.heap.size + 1, 0, none⟩) 1 1, .slice none 0 0, .slice (some ⟨w.heap.size + 1 + 1, 0, none⟩) 1 1, .int .i64 0, .int .i64 1, .int .i64 0, .slice none 0 0, .slice none 0 0, .slice (some ⟨w.heap.size + 1 + 1 + 1, 0, none⟩) 1 1, .slice none 0 0] 42 (0, 0))).alloc (.cells #[.slice (some ⟨w.heap.size, 0, none⟩) 1 1, .slice (some ⟨w.heap.size + 1 + 1 + 1 + 1, 0, none⟩) 2 2, .int .i64 9] 25 (0, 0))) = W at *
  clear hW
  have P0 := Aside0.mk (pacelinelaw08_shown.one (Kd.int .i64) (-1) [.int .i64 (-1)] w.heap.size _ W B0.out rfl rfl)
  have P1 := Aside0.mk (pacelinelaw08_shown.one (Kd.int .i64) 0 [.int .i64 0] (w.heap.size + 1) _ W B1.out rfl rfl)
  have P2 := Aside0.mk (pacelinelaw08_shown.one k55 ⟨0, 4, 2⟩ [.int .i64 0, .int .i64 4, .int .i64 2] (w.heap.size + 1 + 1) _ W B2.out rfl (k55_mk W ⟨0, 4, 2⟩))
  have P3 := Aside0.mk (pacelinelaw08_shown.one (Kd.int .i64) 0 [.int .i64 0] (w.heap.size + 1 + 1 + 1) _ W B3.out rfl rfl)
  have P4 := Aside0.mk (pacelinelaw08_shown.two k42 pacelinelaw08_shown.x0 pacelinelaw08_shown.x1
    [.int .i64 0, .int .i64 1, .int .i64 0, .slice none 0 0, .slice (some ⟨w.heap.size + 1, 0, none⟩) 1 1, .slice none 0 0, .slice (some ⟨w.heap.size + 1 + 1, 0, none⟩) 1 1]
    [.int .i64 0, .int .i64 1, .int .i64 0, .slice none 0 0, .slice none 0 0, .slice (some ⟨w.heap.size + 1 + 1 + 1, 0, none⟩) 1 1, .slice none 0 0] (w.heap.size + 1 + 1 + 1 + 1) _ W B4.out rfl rfl
    (k42_mk W pacelinelaw08_shown.x0 (Nat.le_refl _) (pacelinelaw08_shown.nil _ W) (Nat.le_refl _) P1.out (Nat.le_refl _) (pacelinelaw08_shown.nil _ W) (Nat.le_refl _) P2.out)
    (k42_mk W pacelinelaw08_shown.x1 (Nat.le_refl _) (pacelinelaw08_shown.nil _ W) (Nat.le_refl _) (pacelinelaw08_shown.nil _ W) (Nat.le_refl _) P3.out (Nat.le_refl _) (pacelinelaw08_shown.nil _ W)))
  refine (config_Starts.calls 40 (some ⟨w.heap.size, 0, none⟩) 1 [-1] (some ⟨w.heap.size + 1 + 1 + 1 + 1, 0, none⟩) 2 [pacelinelaw08_shown.x0, pacelinelaw08_shown.x1] 9 [pacelinelaw08_shown.m] W P0.out (Nat.le_refl _) P4.out (Nat.le_refl _) pacelinelaw08_shown.starts).mono ?_
  rintro e w1 ⟨v, rfl, hR, hb1⟩
  obtain ⟨A, c, rfl, hc, hC⟩ := Kd.R_reads hR
  have RC := Aside0.mk hC
  have X1 := Aside0.mk hb1
  clear hR hC hc hb1
  have k50 : w1.cell? ⟨w.heap.size + 1 + 1 + 1 + 1 + 1, 0, none⟩ = some (.slice (some ⟨w.heap.size, 0, none⟩) 1 1) := (blk_cell (blk_below B5.out X1.out) 0).trans rfl
  have k51 : w1.cell? ⟨w.heap.size + 1 + 1 + 1 + 1 + 1, 1, none⟩ = some (.slice (some ⟨w.heap.size + 1 + 1 + 1 + 1, 0, none⟩) 2 2) := (blk_cell (blk_below B5.out X1.out) 1).trans rfl
  have k52 : w1.cell? ⟨w.heap.size + 1 + 1 + 1 + 1 + 1, 2, none⟩ = some (.int .i64 9) := (blk_cell (blk_below B5.out X1.out) 2).trans rfl
  go_wp2_with fail
  refine (config_Check.calls (some ⟨w.heap.size, 0, none⟩) 1 [-1] (some ⟨w.heap.size + 1 + 1 + 1 + 1, 0, none⟩) 2 [pacelinelaw08_shown.x0, pacelinelaw08_shown.x1] 9 (-1) 0 w1 (Kd.C_below P0.out X1.out) (Nat.le_refl _) (Kd.C_below P4.out X1.out) (Nat.le_refl _) pacelinelaw08_shown.check).mono ?_
  rintro e w2 ⟨rfl, hb2⟩
  have X2 := Aside0.mk (below_step X1.out hb2)
  have RD := Aside0.mk (Kd.C_below RC.out hb2)
  clear hb2
  obtain ⟨ad, rfl, q0, q1, q2, q3, q4, q5⟩ := at_T48 RD.out 0 (by omega) (by show (0 : Int) < ((1 : Nat) : Int); omega)
  have z0 : ad.add 0 = ad := by simp [Addr.add]
  have r0 : w2.cell? ad = some (.int .i64 4) := z0 ▸ q0
  have r3 : w2.cell? ⟨ad.block, ad.off + 3, none⟩ = some (.int .i64 1) := by
    have h : w2.cell? ⟨(ad.add 0).block, (ad.add 0).off + 3, none⟩ = some (.int .i64 1) := q3
    rwa [z0] at h
  have r5 : w2.cell? ⟨ad.block, ad.off + 5, none⟩ = some (.int .i64 2) := by
    have h : w2.cell? ⟨(ad.add 0).block, (ad.add 0).off + 5, none⟩ = some (.int .i64 2) := q5
    rwa [z0] at h
  clear z0
  clear q0 q1 q2 q3 q4 q5
  go_wp2
  go_ret
  exact ⟨rfl, below_step BW0.out X2.out⟩

/-! ### pacelinelaw08_same: function 15 -/
def pacelinelaw08_same.l0 : Nat → List (S48) → List (S48) → Int → Option (Bool)
  | 0, _, _, _ => none
  | k + 1, x0, x1, x5 => if x5 < (x0.length : Int) then (if 0 ≤ x5 then (if x5 < (x1.length : Int) then (if ((!(((rd_T48 x0 x5).f0.f0) == ((rd_T48 x1 x5).f0.f0)) || (!(((rd_T48 x0 x5).f0.f1) == ((rd_T48 x1 x5).f0.f1)) || (!(((rd_T48 x0 x5).f0.f2) == ((rd_T48 x1 x5).f0.f2))))) || (!(((rd_T48 x0 x5).f1) == ((rd_T48 x1 x5).f1)) || (!(((rd_T48 x0 x5).f2) == ((rd_T48 x1 x5).f2)) || (!(((rd_T48 x0 x5).f3) == ((rd_T48 x1 x5).f3)))))) = true then (some false) else (pacelinelaw08_same.l0 k x0 x1 (wrap64 (x5 + 1)))) else (none)) else (none)) else (some true)
def pacelinelaw08_same.f (k : Nat) (l0 : List (S48)) (l1 : List (S48)) : Option (Bool) := if (l0.length : Int) = (l1.length : Int) then (pacelinelaw08_same.l0 k l0 l1 0) else (some false)
theorem pacelinelaw08_same.mono_l : ∀ k, (∀ y0 y1 y2, LeO (pacelinelaw08_same.l0 k y0 y1 y2) (pacelinelaw08_same.l0 (k + 1) y0 y1 y2))
  | 0 => fun _ _ _ r h => by simp [pacelinelaw08_same.l0] at h
  | k + 1 => by
    have ih0 := pacelinelaw08_same.mono_l k
    · intro y0 y1 y2
      unfold pacelinelaw08_same.l0
      repeat' first
      | (with_reducible exact ih0 _ _ _)
      | (with_reducible exact LeO.refl _)
      | (with_reducible exact LeO.none _)
      | (with_reducible refine LeO.ite ?_ ?_)
      | (with_reducible refine LeO.bind ?_ (fun _ => ?_))
      | exact ih0 _ _ _
      | exact LeO.none _
      | refine LeO.ite ?_ ?_
      | refine LeO.bind ?_ (fun _ => ?_)
theorem pacelinelaw08_same.mono : ∀ a0 a1 k, LeO (pacelinelaw08_same.f k a0 a1) (pacelinelaw08_same.f (k + 1) a0 a1) := by
  intro a0 a1 k
  have ih0 := pacelinelaw08_same.mono_l k
  unfold pacelinelaw08_same.f
  repeat' first
      | (with_reducible exact ih0 _ _ _)
      | (with_reducible exact LeO.refl _)
      | (with_reducible exact LeO.none _)
      | (with_reducible refine LeO.ite ?_ ?_)
      | (with_reducible refine LeO.bind ?_ (fun _ => ?_))
      | exact ih0 _ _ _
      | exact LeO.none _
      | refine LeO.ite ?_ ?_
      | refine LeO.bind ?_ (fun _ => ?_)
set_option maxHeartbeats 8000000 in
set_option maxRecDepth 100000 in
theorem pacelinelaw08_same.calls (k : Nat) (A0 : Option Addr) (c0 : Nat) (l0 : List (S48)) (A1 : Option Addr) (c1 : Nat) (l1 : List (S48)) (r : Bool) (w : World) (hr0 : Kd.C k48 w A0 l0.length l0) (hc0 : l0.length ≤ c0) (hr1 : Kd.C k48 w A1 l1.length l1) (hc1 : l1.length ≤ c1) (h : pacelinelaw08_same.f k l0 l1 = some r) :
    Calls Try.prog 15 #[.slice A0 l0.length c0, .slice A1 l1.length c1] w fun e w' => e = .returned (.bool r) ∧ Drawn0 w w' := by
  have hu48 := Try.underlying48
  have HR0 := Aside0.mk hr0
  have HC0 := Aside0.mk hc0
  clear hr0 hc0
  have HR1 := Aside0.mk hr1
  have HC1 := Aside0.mk hc1
  clear hr1 hc1
  have H : (if (l0.length : Int) = (l1.length : Int) then (pacelinelaw08_same.l0 k l0 l1 0) else (some false)) = some r := h
  clear h
  by_cases c3 : (l0.length : Int) = (l1.length : Int)
  · rw [if_pos c3] at H
    have c3b0 : ((l0.length : Int) == (l1.length : Int)) = true := beq_iff_eq.mpr c3
    have c3b1 : ((l0.length : Int) != (l1.length : Int)) = false := bne_eq_false_iff_eq.mpr c3
    have c3b2 : (l0.length == l1.length) = true := by first | simpa using c3 | (simp at c3 ⊢; omega)
    clear c3
    have H' := Aside0.mk H
    clear H
    go_enter Try.func15, Try.ntmps15
    go_wp2
    repeat (go_quiet (fail); try go_wp2)
    go_loopg [5] k (fun kq v5 w' => ∃ (x5_1 : Int), v5 = .int .i64 x5_1 ∧ Aside0 (pacelinelaw08_same.l0 kq l0 l1 x5_1 = some r) ∧ Aside0 (kq ≤ k) ∧ Drawn0 w w')
    case atStart => exact ⟨(0), (by first | rfl | (simp; done) | (simp [*]; done)), H', ⟨Nat.le_refl _⟩, by repeat (first | exact Drawn0.refl _ | apply Drawn0.step)⟩
    case round =>
      clear H'
      try clear c1
      try clear p2
      try clear c3
      try clear c3b0
      try clear c3b1
      try clear c3b2
      obtain ⟨x5_1, rfl, HA, HK1, ⟨m1, rfl⟩⟩ := hrel
      cases gk with
      | zero => exact absurd HA.out (by simp [pacelinelaw08_same.l0])
      | succ k1 =>
        have H := HA.out
        clear HA
        simp only [pacelinelaw08_same.l0] at H
        by_cases c4 : x5_1 < (l0.length : Int)
        · rw [if_pos c4] at H
          have c4b0 : decide (x5_1 < (l0.length : Int)) = true := decide_eq_true c4
          clear c4
          by_cases c5 : 0 ≤ x5_1
          · rw [if_pos c5] at H
            have c5b0 : decide (0 ≤ x5_1) = true := decide_eq_true c5
            clear c5
            by_cases c6 : x5_1 < (l1.length : Int)
            · rw [if_pos c6] at H
              have c6b0 : decide (x5_1 < (l1.length : Int)) = true := decide_eq_true c6
              clear c6
              by_cases c7 : ((!(((rd_T48 l0 x5_1).f0.f0) == ((rd_T48 l1 x5_1).f0.f0)) || (!(((rd_T48 l0 x5_1).f0.f1) == ((rd_T48 l1 x5_1).f0.f1)) || (!(((rd_T48 l0 x5_1).f0.f2) == ((rd_T48 l1 x5_1).f0.f2))))) || (!(((rd_T48 l0 x5_1).f1) == ((rd_T48 l1 x5_1).f1)) || (!(((rd_T48 l0 x5_1).f2) == ((rd_T48 l1 x5_1).f2)) || (!(((rd_T48 l0 x5_1).f3) == ((rd_T48 l1 x5_1).f3)))))) = true
              · rw [if_pos c7] at H
                have c7b0 : ((!(((rd_T48 l0 x5_1).f0.f0) == ((rd_T48 l1 x5_1).f0.f0)) || (!(((rd_T48 l0 x5_1).f0.f1) == ((rd_T48 l1 x5_1).f0.f1)) || (!(((rd_T48 l0 x5_1).f0.f2) == ((rd_T48 l1 x5_1).f0.f2))))) || (!(((rd_T48 l0 x5_1).f1) == ((rd_T48 l1 x5_1).f1)) || (!(((rd_T48 l0 x5_1).f2) == ((rd_T48 l1 x5_1).f2)) || (!(((rd_T48 l0 x5_1).f3) == ((rd_T48 l1 x5_1).f3)))))) = true := c7
                clear c7
                obtain rfl := Option.some.inj H
                have p183 : 0 ≤ (x5_1 : Int) := of_decide_eq_true (by first | (with_reducible assumption) | assumption)
                have q183 : x5_1 < (l0.length : Int) := of_decide_eq_true (by first | (with_reducible assumption) | assumption)
                obtain ⟨ad183, e183, hx183_0, hx183_1, hx183_2, hx183_3, hx183_4, hx183_5⟩ := at_T48 HR0.out x5_1 p183 q183
                cases e183
                replace p183 := eq_true p183
                replace q183 := eq_true q183
                have p184 : 0 ≤ (x5_1 : Int) := of_decide_eq_true (by first | (with_reducible assumption) | assumption)
                have q184 : x5_1 < (l1.length : Int) := of_decide_eq_true (by first | (with_reducible assumption) | assumption)
                obtain ⟨ad184, e184, hx184_0, hx184_1, hx184_2, hx184_3, hx184_4, hx184_5⟩ := at_T48 HR1.out x5_1 p184 q184
                cases e184
                replace p184 := eq_true p184
                replace q184 := eq_true q184
                go_wp2
                repeat (go_quiet (fail); try go_wp2)
                go_ret
                exact ⟨by first | rfl | (simp; done) | (simp [*]; done), by repeat (first | exact Drawn0.refl _ | apply Drawn0.step)⟩
              · rw [if_neg c7] at H
                have c7b0 : ((!(((rd_T48 l0 x5_1).f0.f0) == ((rd_T48 l1 x5_1).f0.f0)) || (!(((rd_T48 l0 x5_1).f0.f1) == ((rd_T48 l1 x5_1).f0.f1)) || (!(((rd_T48 l0 x5_1).f0.f2) == ((rd_T48 l1 x5_1).f0.f2))))) || (!(((rd_T48 l0 x5_1).f1) == ((rd_T48 l1 x5_1).f1)) || (!(((rd_T48 l0 x5_1).f2) == ((rd_T48 l1 x5_1).f2)) || (!(((rd_T48 l0 x5_1).f3) == ((rd_T48 l1 x5_1).f3)))))) = false := by simpa using c7
                clear c7
                have H' := Aside0.mk H
                clear H
                have p183 : 0 ≤ (x5_1 : Int) := of_decide_eq_true (by first | (with_reducible assumption) | assumption)
                have q183 : x5_1 < (l0.length : Int) := of_decide_eq_true (by first | (with_reducible assumption) | assumption)
                obtain ⟨ad183, e183, hx183_0, hx183_1, hx183_2, hx183_3, hx183_4, hx183_5⟩ := at_T48 HR0.out x5_1 p183 q183
                cases e183
                replace p183 := eq_true p183
                replace q183 := eq_true q183
                have p184 : 0 ≤ (x5_1 : Int) := of_decide_eq_true (by first | (with_reducible assumption) | assumption)
                have q184 : x5_1 < (l1.length : Int) := of_decide_eq_true (by first | (with_reducible assumption) | assumption)
                obtain ⟨ad184, e184, hx184_0, hx184_1, hx184_2, hx184_3, hx184_4, hx184_5⟩ := at_T48 HR1.out x5_1 p184 q184
                cases e184
                replace p184 := eq_true p184
                replace q184 := eq_true q184
                go_wp2
                repeat (go_quiet (fail); try go_wp2)
                go_roundg k1
                case measure => have := HK1.out; omega
                case rel => exact ⟨(wrap64 (x5_1 + 1)), (by first | rfl | (simp; done) | (simp [*]; done)), H', ⟨by have := HK1.out; omega⟩, by repeat (first | exact Drawn0.refl _ | apply Drawn0.step)⟩
            · rw [if_neg c6] at H
              exact absurd H (by simp)
          · rw [if_neg c5] at H
            exact absurd H (by simp)
        · rw [if_neg c4] at H
          have c4b0 : decide (x5_1 < (l0.length : Int)) = false := decide_eq_false c4
          clear c4
          obtain rfl := Option.some.inj H
          go_wp2
          repeat (go_quiet (fail); try go_wp2)
          go_ret
          exact ⟨by first | rfl | (simp; done) | (simp [*]; done), by repeat (first | exact Drawn0.refl _ | apply Drawn0.step)⟩
  · rw [if_neg c3] at H
    have c3b0 : ((l0.length : Int) == (l1.length : Int)) = false := beq_eq_false_iff_ne.mpr c3
    have c3b1 : ((l0.length : Int) != (l1.length : Int)) = true := bne_iff_ne.mpr c3
    have c3b2 : (l0.length == l1.length) = false := by first | simpa using c3 | (simp at c3 ⊢; omega)
    obtain rfl := Option.some.inj H
    go_enter Try.func15, Try.ntmps15
    go_wp2
    repeat (go_quiet (fail); try go_wp2)
    go_ret
    exact ⟨by first | rfl | (simp; done) | (simp [*]; done), by repeat (first | exact Drawn0.refl _ | apply Drawn0.step)⟩

end Go.Proofs.Ytdlagficilbbbaa.PConfigKinds
