-- Written by gp.py (this project's driver over the kit's print) out of the translation and wip/given; Lean checks it.
import Derived.Test.YtdlagficilbbbaaPConfigSpreadsx0
import Derived.Test.YtdlagficilbbbaaPConfigSpreadsx12
namespace Go.Proofs.Ytdlagficilbbbaa.PConfigSpreads
open Go.RowKit Go.Proofs.YtdlagficilbbbaaR Go.Proofs.YtdlagficilbbbaaW.PrintWords Go.Proofs.YtdlagficilbbbaaW.PrintLast Go.Proofs.YtdlagficilbbbaaW.PrintMore
attribute [local go_sem] max2_int min2_int max_two min_two max_three min_three max_four min_four   -- for this text's walks alone
set_option linter.unusedVariables false
set_option linter.unusedSimpArgs false

/-! ### pacelineref07_Sent: function 34 -/
def pacelineref07_Sent.f (a0 : Int) (a1 : Int) (a2 : Int) (a3 : Int) (a4_0 : Int) (a4_1 : Int) (a4_2 : Int) : Option (Int × Int × Int × Int × Int × Int) := (pacelineref01_Add.f a2 a4_1).bind fun t211 => (some (t211, a0, a1, (-1), a4_0, Int.tmod (wrap64 ((Int.tmod (wrap64 ((Int.tmod a3 1000) + (Int.tmod a4_2 1000))) 1000) + 1000)) 1000))
def pacelineref07_Sent.T2 : Bool × List (List Nat × List Nat) := (true, [([], []), ([], []), ([1], [1]), ([0, 2], [0, 2]), ([], []), ([], []), ([3, 4, 5], [3, 4, 5]), ([], []), ([7], [7]), ([], []), ([9], [9]), ([6, 8, 10], [6, 8, 10]), ([11, 3, 0, 1, 2, 3, 4, 5, 6, 7, 8, 9, 10, 11], [11])])
def pacelineref07_Sent.B2 : List Nat := [0, 0, 2, 7, 0, 0, 63, 0, 128, 0, 512, 2047, 4095]
theorem pacelineref07_Sent.tab2 : rtab .any (opsOf Try.f34 2) = pacelineref07_Sent.T2 := by kernel_rfl
theorem pacelineref07_Sent.bits2 : waitsOk pacelineref07_Sent.T2.2 pacelineref07_Sent.B2 = true := by kernel_rfl
set_option maxHeartbeats 8000000 in
set_option maxRecDepth 100000 in
theorem pacelineref07_Sent.calls (a0 : Int) (a1 : Int) (a2 : Int) (a3 : Int) (a4_0 : Int) (a4_1 : Int) (a4_2 : Int) (r1 : Int) (r2 : Int) (r3 : Int) (r4 : Int) (r5 : Int) (r6 : Int) (w : World) (h : pacelineref07_Sent.f a0 a1 a2 a3 a4_0 a4_1 a4_2 = some (r1, r2, r3, r4, r5, r6)) :
    Calls Try.prog 34 #[.int .i64 a0, .int .i64 a1, .int .i64 a2, .int .i64 a3, .agg #[.int .i64 a4_0, .int .i64 a4_1, .int .i64 a4_2]] w fun e w' => e = .returned (.agg #[.int .i64 r1, .int .i64 r2, .int .i64 r3, .int .i64 r4, .int .i64 r5, .int .i64 r6]) ∧ Below w.heap.size w w' := by
  have hu55 := Try.underlying55
  have hu48 := Try.underlying48
  have hu46 := Try.underlying46
  have HB := Aside0.mk (Below.refl w.heap.size w)
  have H : ((pacelineref01_Add.f a2 a4_1).bind fun t211 => (some (t211, a0, a1, (-1), a4_0, Int.tmod (wrap64 ((Int.tmod (wrap64 ((Int.tmod a3 1000) + (Int.tmod a4_2 1000))) 1000) + 1000)) 1000))) = some (r1, r2, r3, r4, r5, r6) := h
  clear h
  replace H := Option.bind_eq_some_iff.mp H
  obtain ⟨t211, A60, H⟩ := H
  replace H : (some (t211, a0, a1, (-1), a4_0, Int.tmod (wrap64 ((Int.tmod (wrap64 ((Int.tmod a3 1000) + (Int.tmod a4_2 1000))) 1000) + 1000)) 1000)) = some (r1, r2, r3, r4, r5, r6) := H
  have A6 := Aside0.mk A60
  clear A60
  simp only [Option.some.injEq, Prod.mk.injEq] at H
  obtain ⟨rfl, rfl, rfl, rfl, rfl, rfl⟩ := H
  go_enter Try.func34, Try.ntmps34
  try go_wp2_with (first | ((with_reducible refine gate_dst (N := 9) rfl ?_); refine box_event ?hg (N := 9) ?hd (cs := #[.int .i64 a4_0, .int .i64 a4_1, .int .i64 a4_2]) (t := 55) ?hr ?_; (case hd => rfl); (case hg => rfl); (case hr => first | (go_simp; done) | (go_simp; rfl)); intro gb209 hg w7 hbox hb; have n0_ := Aside0.mk (below_step (by repeat (first | (with_reducible first | exact HB.out | apply below_alloc | apply pw_below_drewN | apply below_drew1) | exact HB.out)) hb); have n1_ := Aside0.mk (hbox); have n2_ := Aside0.mk ((by rw [hg]; exact (below_size (by repeat (first | (with_reducible first | exact HB.out | apply below_alloc | apply pw_below_drewN | apply below_drew1) | exact HB.out))) : w.heap.size ≤ gb209)); have n3_ := Aside0.mk ((by rw [hg]; exact (below_size (by repeat (first | (with_reducible first | exact HB.out | apply below_alloc | apply pw_below_drewN | apply below_drew1) | exact HB.out))) : w.heap.size ≤ gb209)); clear HB; have HB := n0_; have BK209 := n1_; have GW209 := n2_; have GE209 := n3_; clear n0_ n1_ n2_ n3_; clear hb hbox hg) | ((with_reducible refine gate_dst (N := 10) rfl ?_); refine box_event ?hg (N := 10) ?hd (cs := #[.int .i64 0, .int .i64 0, .int .i64 0, .int .i64 0, .int .i64 0, .int .i64 0]) (t := 48) ?hr ?_; (case hd => rfl); (case hg => rfl); (case hr => first | (go_simp; done) | (go_simp; rfl)); intro gb210 hg w8 hbox hb; have n0_ := Aside0.mk (blk_below (g := gb209) (o := .cells #[.int .i64 a4_0, .int .i64 a4_1, .int .i64 a4_2] 55 (0, 0)) (by (with_reducible repeat (first | refine blk_drewN ?_ _ | refine blk_drew ?_ | refine blk_alloc ?_ _)); exact BK209.out) hb); have n1_ := Aside0.mk (below_step (by repeat (first | (with_reducible first | exact HB.out | apply below_alloc | apply pw_below_drewN | apply below_drew1 | refine below_set ?_ GE209.out) | exact HB.out)) hb); have n2_ := Aside0.mk (hbox); have n3_ := Aside0.mk ((by rw [hg]; exact (below_size (by repeat (first | (with_reducible first | exact HB.out | apply below_alloc | apply pw_below_drewN | apply below_drew1 | refine below_set ?_ GE209.out) | exact HB.out))) : w.heap.size ≤ gb210)); have n4_ := Aside0.mk ((by rw [hg]; exact (below_size (by repeat (first | (with_reducible first | exact HB.out | apply below_alloc | apply pw_below_drewN | apply below_drew1 | refine below_set ?_ GE209.out) | exact HB.out))) : w.heap.size ≤ gb210)); have n5_ := Aside0.mk ((by rw [hg]; exact Nat.ne_of_lt (blk_lt (g := gb209) (o := .cells #[.int .i64 a4_0, .int .i64 a4_1, .int .i64 a4_2] 55 (0, 0)) (by (with_reducible repeat (first | refine blk_drewN ?_ _ | refine blk_drew ?_ | refine blk_alloc ?_ _)); exact BK209.out)) : gb209 ≠ gb210)); have n6_ := Aside0.mk ((by rw [hg]; exact Nat.ne_of_gt (blk_lt (g := gb209) (o := .cells #[.int .i64 a4_0, .int .i64 a4_1, .int .i64 a4_2] 55 (0, 0)) (by (with_reducible repeat (first | refine blk_drewN ?_ _ | refine blk_drew ?_ | refine blk_alloc ?_ _)); exact BK209.out)) : gb210 ≠ gb209)); clear BK209; clear HB; have BK209 := n0_; have HB := n1_; have BK210 := n2_; have GW210 := n3_; have GE210 := n4_; have NB209_210 := n5_; have NB210_209 := n6_; clear n0_ n1_ n2_ n3_ n4_ n5_ n6_; clear hb hbox hg; have hnb9 := NB209_210.out; have hnc9 := NB210_209.out; have hcz10_0 : w8.cell? ⟨gb209, 0, none⟩ = some (.int .i64 a4_0) := (blk_cell BK209.out 0).trans rfl; have hcz10_1 : w8.cell? ⟨gb209, 1, none⟩ = some (.int .i64 a4_1) := (blk_cell BK209.out 1).trans rfl; have hcz10_2 : w8.cell? ⟨gb209, 2, none⟩ = some (.int .i64 a4_2) := (blk_cell BK209.out 2).trans rfl; have hfz10_0 := blk_frozen BK209.out 0; have hfz10_1 := blk_frozen BK209.out 1; have hfz10_2 := blk_frozen BK209.out 2))
  have n0_ := Aside0.mk (blk_drew BK209.out)
  have n1_ := Aside0.mk (blk_drew BK210.out)
  have n2_ := Aside0.mk (below_drew1 HB.out)
  clear BK209
  clear BK210
  clear HB
  have BK209 := n0_
  have BK210 := n1_
  have HB := n2_
  clear n0_ n1_ n2_
  refine start_ (n := 13) (S := fun w' => w'.cell? ⟨gb209, 0, none⟩ = some (.int .i64 a4_0) ∧ w'.cell? ⟨gb209, 1, none⟩ = some (.int .i64 a4_1) ∧ w'.cell? ⟨gb209, 2, none⟩ = some (.int .i64 a4_2)) (ds := []) #[false, false, false, false, false, false, false, false, false, false, false, false, false] (by kernel_rfl) rfl rfl ⟨(blk_cell BK209.out 0).trans rfl, (blk_cell BK209.out 1).trans rfl, (blk_cell BK209.out 2).trans rfl⟩ (fun hHeld => ?_); refine with_tabW pacelineref07_Sent.tab2 pacelineref07_Sent.bits2 (fun HT_ HW_ => ?_)
  generalize w8.drew = w11 at BK209 BK210 HB hHeld ⊢
  refine pure_ (i := 0) (N := some 20) (v := ?_) (a' := ?_) #[true, false, false, false, false, false, false, false, false, false, false, false, false] rfl rfl (any_of HT_.out (by kernel_rfl)) (fun _ _ _ h => h) (Or.inl ⟨by rfl, ?_⟩) ?_ ?_
  rotate_left
  · intro w'
    go_simp
    with_reducible rfl
  rotate_left
  · simp only [Act.put, List.setIfInBounds_toArray, List.set_cons_zero, List.set_cons_succ, i64_w, i32_w]
    rfl
  refine pure_ (i := 1) (N := some 21) (v := ?_) (a' := ?_) #[true, true, false, false, false, false, false, false, false, false, false, false, false] rfl rfl (any_of HT_.out (by kernel_rfl)) (fun _ _ _ h => h) (Or.inl ⟨by rfl, ?_⟩) ?_ ?_
  rotate_left
  · intro w'
    go_simp
    with_reducible rfl
  rotate_left
  · simp only [Act.put, List.setIfInBounds_toArray, List.set_cons_zero, List.set_cons_succ, i64_w, i32_w]
    rfl
  refine pure_ (i := 4) (N := some 24) (v := ?_) (a' := ?_) #[true, true, false, false, true, false, false, false, false, false, false, false, false] rfl rfl (any_of HT_.out (by kernel_rfl)) (fun _ _ _ h => h) (Or.inl ⟨by rfl, ?_⟩) ?_ ?_
  rotate_left
  · intro w'
    go_simp
    with_reducible rfl
  rotate_left
  · simp only [Act.put, List.setIfInBounds_toArray, List.set_cons_zero, List.set_cons_succ, i64_w, i32_w]
    rfl
  refine pure_ (i := 5) (N := some 25) (v := ?_) (a' := ?_) #[true, true, false, false, true, true, false, false, false, false, false, false, false] rfl rfl (any_of HT_.out (by kernel_rfl)) (fun _ _ _ h => h) (Or.inl ⟨by rfl, ?_⟩) ?_ ?_
  rotate_left
  · intro w'
    go_simp
    with_reducible rfl
  rotate_left
  · simp only [Act.put, List.setIfInBounds_toArray, List.set_cons_zero, List.set_cons_succ, i64_w, i32_w]
    rfl
  refine pure_ (i := 7) (N := some 27) (v := ?_) (a' := ?_) #[true, true, false, false, true, true, false, true, false, false, false, false, false] rfl rfl (any_of HT_.out (by kernel_rfl)) (fun _ _ _ h => h) (Or.inl ⟨by rfl, ?_⟩) ?_ ?_
  rotate_left
  · intro w'
    go_simp
    with_reducible rfl
  rotate_left
  · simp only [Act.put, List.setIfInBounds_toArray, List.set_cons_zero, List.set_cons_succ, i64_w, i32_w]
    rfl
  refine pure_ (i := 9) (N := some 29) (v := ?_) (a' := ?_) #[true, true, false, false, true, true, false, true, false, true, false, false, false] rfl rfl (any_of HT_.out (by kernel_rfl)) (fun _ _ _ h => h) (Or.inl ⟨by rfl, ?_⟩) ?_ ?_
  rotate_left
  · intro w'
    go_simp
    with_reducible rfl
  rotate_left
  · simp only [Act.put, List.setIfInBounds_toArray, List.set_cons_zero, List.set_cons_succ, i64_w, i32_w]
    rfl
  refine pure_ (i := 10) (N := some 30) (v := ?_) (a' := ?_) #[true, true, false, false, true, true, false, true, false, true, true, false, false] rfl rfl (any_of HT_.out (by kernel_rfl)) (fun _ _ _ h => h) (Or.inl ⟨by rfl, ?_⟩) ?_ ?_
  rotate_left
  · intro w'
    go_simp
    with_reducible rfl
  rotate_left
  · simp only [Act.put, List.setIfInBounds_toArray, List.set_cons_zero, List.set_cons_succ, i64_w, i32_w]
    rfl
  refine take_ (i := 2) (N := some 22) (v := ?_) (a' := ?_) #[true, true, true, false, true, true, false, true, false, true, true, false, false] rfl rfl (take_ofW HT_.out HW_.out (by kernel_rfl)) (fun _ _ _ h => h) (Or.inl ⟨by rfl, ?_⟩) hHeld ?_ ?_
  rotate_left
  · rintro w' ⟨s0, s1, s2⟩
    go_simp
    with_reducible rfl
  rotate_left
  · simp only [Act.put, List.setIfInBounds_toArray, List.set_cons_zero, List.set_cons_succ, i64_w, i32_w]
    rfl
  refine take_ (i := 8) (N := some 28) (v := ?_) (a' := ?_) #[true, true, true, false, true, true, false, true, true, true, true, false, false] rfl rfl (take_ofW HT_.out HW_.out (by kernel_rfl)) (fun _ _ _ h => h) (Or.inl ⟨by rfl, ?_⟩) hHeld ?_ ?_
  rotate_left
  · rintro w' ⟨s0, s1, s2⟩
    go_simp
    with_reducible rfl
  rotate_left
  · simp only [Act.put, List.setIfInBounds_toArray, List.set_cons_zero, List.set_cons_succ, i64_w, i32_w]
    rfl
  refine one_ (i := 3) (N := some 23) #[true, true, true, true, true, true, false, true, true, true, true, false, false] rfl rfl (one_of HT_.out (by kernel_rfl)) (by decide) (fun K hK => ?_)
  refine goes_ Try.func49 (by kernel_rfl) rfl #[.int .i64 a2, .int .i64 a4_1] (by rfl) rfl rfl (by (try simp only [List.map_toArray, List.map_cons, List.map_nil]); first | done | rfl | (simp only [List.length_drop, List.length_take]; rfl)) ?_
  with_reducible refine (pacelineref01_Add.calls a2 a4_1 t211 _ A6.out).mono ?_
  rintro e w' ⟨rfl, ⟨nd, rfl⟩⟩
  refine ⟨_, rfl, ?_⟩
  refine hK.out _ _ ⟨(blk_cell BK209.out 0).trans rfl, (blk_cell BK209.out 1).trans rfl, (blk_cell BK209.out 2).trans rfl⟩ (fun hHeld => ?_)
  clear hK K
  refine norm_ (a' := ?_) ?_ ?_
  rotate_left
  · show Act.put _ (some 23) _ = _
    simp only [Act.put, List.setIfInBounds_toArray, List.set_cons_zero, List.set_cons_succ, i64_w, i32_w]
    rfl
  refine pure_ (i := 6) (N := some 26) (v := ?_) (a' := ?_) #[true, true, true, true, true, true, true, true, true, true, true, false, false] rfl rfl (any_of HT_.out (by kernel_rfl)) (fun _ _ _ h => h) (Or.inl ⟨by rfl, ?_⟩) ?_ ?_
  rotate_left
  · intro w'
    go_simp
    with_reducible rfl
  rotate_left
  · simp only [Act.put, List.setIfInBounds_toArray, List.set_cons_zero, List.set_cons_succ, i64_w, i32_w]
    rfl
  refine pure_ (i := 11) (N := some 31) (v := ?_) (a' := ?_) #[true, true, true, true, true, true, true, true, true, true, true, true, false] rfl rfl (any_of HT_.out (by kernel_rfl)) (fun _ _ _ h => h) (Or.inl ⟨by rfl, ?_⟩) ?_ ?_
  rotate_left
  · intro w'
    go_simp
    with_reducible rfl
  rotate_left
  · simp only [Act.put, List.setIfInBounds_toArray, List.set_cons_zero, List.set_cons_succ, i64_w, i32_w]
    rfl
  refine one_ (i := 12) (N := none) #[true, true, true, true, true, true, true, true, true, true, true, true, true] rfl rfl (one_of HT_.out (by kernel_rfl)) (by decide) (fun K hK => ?_)
  have hs12 : w11.cell? ⟨gb210, 0, none⟩ = some (.int .i64 0) := (blk_cell BK210.out 0).trans rfl
  have hfs12 := blk_frozen BK210.out 0
  have hns12_0 := NB209_210.out
  have hms12_0 := NB210_209.out
  have hs13 : w11.cell? ⟨gb210, 1, none⟩ = some (.int .i64 0) := (blk_cell BK210.out 1).trans rfl
  have hfs13 := blk_frozen BK210.out 1
  have hns13_0 := NB209_210.out
  have hms13_0 := NB210_209.out
  have hs14 : w11.cell? ⟨gb210, 2, none⟩ = some (.int .i64 0) := (blk_cell BK210.out 2).trans rfl
  have hfs14 := blk_frozen BK210.out 2
  have hns14_0 := NB209_210.out
  have hms14_0 := NB210_209.out
  have hs15 : w11.cell? ⟨gb210, 3, none⟩ = some (.int .i64 0) := (blk_cell BK210.out 3).trans rfl
  have hfs15 := blk_frozen BK210.out 3
  have hns15_0 := NB209_210.out
  have hms15_0 := NB210_209.out
  have hs16 : w11.cell? ⟨gb210, 4, none⟩ = some (.int .i64 0) := (blk_cell BK210.out 4).trans rfl
  have hfs16 := blk_frozen BK210.out 4
  have hns16_0 := NB209_210.out
  have hms16_0 := NB210_209.out
  have hs17 : w11.cell? ⟨gb210, 5, none⟩ = some (.int .i64 0) := (blk_cell BK210.out 5).trans rfl
  have hfs17 := blk_frozen BK210.out 5
  have hns17_0 := NB209_210.out
  have hms17_0 := NB210_209.out
  refine skip_ (w1 := ?_) (by rfl) rfl ?_ ?_
  rotate_left
  · go_simp
    rfl
  refine hK.out _ _ ⟨((cell_far (p := ⟨gb210, _, none⟩) NB209_210.out _).trans (((cell_far (p := ⟨gb210, _, none⟩) NB209_210.out _).trans (((cell_far (p := ⟨gb210, _, none⟩) NB209_210.out _).trans (((cell_far (p := ⟨gb210, _, none⟩) NB209_210.out _).trans (((cell_far (p := ⟨gb210, _, none⟩) NB209_210.out _).trans (((cell_far (p := ⟨gb210, _, none⟩) NB209_210.out _).trans (hHeld.1)))))))))))), ((cell_far (p := ⟨gb210, _, none⟩) NB209_210.out _).trans (((cell_far (p := ⟨gb210, _, none⟩) NB209_210.out _).trans (((cell_far (p := ⟨gb210, _, none⟩) NB209_210.out _).trans (((cell_far (p := ⟨gb210, _, none⟩) NB209_210.out _).trans (((cell_far (p := ⟨gb210, _, none⟩) NB209_210.out _).trans (((cell_far (p := ⟨gb210, _, none⟩) NB209_210.out _).trans (hHeld.2.1)))))))))))), ((cell_far (p := ⟨gb210, _, none⟩) NB209_210.out _).trans (((cell_far (p := ⟨gb210, _, none⟩) NB209_210.out _).trans (((cell_far (p := ⟨gb210, _, none⟩) NB209_210.out _).trans (((cell_far (p := ⟨gb210, _, none⟩) NB209_210.out _).trans (((cell_far (p := ⟨gb210, _, none⟩) NB209_210.out _).trans (((cell_far (p := ⟨gb210, _, none⟩) NB209_210.out _).trans (hHeld.2.2))))))))))))⟩ (fun hHeld => ?_)
  clear hK K
  refine done_ (done_of HT_.out (by kernel_rfl)) ?_
  try go_wp2
  refine bodyPost_ret (results_cell_row rfl _ _ gb210 48 #[.int .i64 t211, .int .i64 a0, .int .i64 a1, .int .i64 (-1), .int .i64 a4_0, .int .i64 (Int.tmod (wrap64 ((Int.tmod (wrap64 ((Int.tmod a3 1000) + (Int.tmod a4_2 1000))) 1000) + 1000)) 1000)] (0, 0) _ rfl (by (with_reducible repeat (first | refine blk_drewN ?_ _ | refine blk_drew ?_ | refine blk_alloc ?_ _)); refine blk_put (cs := #[.int .i64 t211, .int .i64 a0, .int .i64 a1, .int .i64 (-1), .int .i64 a4_0, .int .i64 0]) ?_ 5 _ rfl; (with_reducible repeat (first | refine blk_drewN ?_ _ | refine blk_drew ?_ | refine blk_alloc ?_ _)); refine blk_put (cs := #[.int .i64 t211, .int .i64 a0, .int .i64 a1, .int .i64 (-1), .int .i64 0, .int .i64 0]) ?_ 4 _ rfl; (with_reducible repeat (first | refine blk_drewN ?_ _ | refine blk_drew ?_ | refine blk_alloc ?_ _)); refine blk_put (cs := #[.int .i64 t211, .int .i64 a0, .int .i64 a1, .int .i64 0, .int .i64 0, .int .i64 0]) ?_ 3 _ rfl; (with_reducible repeat (first | refine blk_drewN ?_ _ | refine blk_drew ?_ | refine blk_alloc ?_ _)); refine blk_put (cs := #[.int .i64 t211, .int .i64 a0, .int .i64 0, .int .i64 0, .int .i64 0, .int .i64 0]) ?_ 2 _ rfl; (with_reducible repeat (first | refine blk_drewN ?_ _ | refine blk_drew ?_ | refine blk_alloc ?_ _)); refine blk_put (cs := #[.int .i64 t211, .int .i64 0, .int .i64 0, .int .i64 0, .int .i64 0, .int .i64 0]) ?_ 1 _ rfl; (with_reducible repeat (first | refine blk_drewN ?_ _ | refine blk_drew ?_ | refine blk_alloc ?_ _)); refine blk_put (cs := #[.int .i64 0, .int .i64 0, .int .i64 0, .int .i64 0, .int .i64 0, .int .i64 0]) ?_ 0 _ rfl; (with_reducible repeat (first | refine blk_drewN ?_ _ | refine blk_drew ?_ | refine blk_alloc ?_ _)); exact BK210.out) Try.underlying48 rfl (by kernel_rfl)) rfl ?_
  exact ⟨by first | rfl | (simp [errW_none, errW_some] <;> rfl) | (simp [*, errW_none, errW_some] <;> rfl), by repeat (first | (with_reducible first | exact HB.out | apply below_alloc | apply pw_below_drewN | apply below_drew1 | refine below_set ?_ GE209.out | refine below_set ?_ GE210.out) | exact HB.out)⟩

/-! ### pacelineref08_Spread: function 17 -/
mutual
def pacelineref08_Spread.l0 : Nat → Int → Int → Int → Int → List (S55) → List (S48) → Int → List Int → List (S42) → Int → Option ((List (S48)))
  | 0, _, _, _, _, _, _, _, _, _, _ => none
  | k + 1, x1, x2, x3, x4, x5, x13, x14, x213000, x213001, x213002 => if x14 < (x5.length : Int) then (if 0 ≤ x14 then ((pacelineref07_Sent.f x1 (wrap64 (x2 + x14)) x3 x4 ((rd_T55 x5 x14).f0) ((rd_T55 x5 x14).f1) ((rd_T55 x5 x14).f2)).bind fun bt217 => ((pacelineref08_Routes.f k x213000 x213001 x213002 x1 bt217.2.2.2.2.1).bind fun t224 => (pacelineref08_Spread.l1 k x1 x2 x3 x4 x5 x13 x14 t224 0 x213000 x213001 x213002 bt217.1 bt217.2.1 bt217.2.2.1 bt217.2.2.2.1 bt217.2.2.2.2.1 bt217.2.2.2.2.2))) else (none)) else (some x13)
def pacelineref08_Spread.l1 : Nat → Int → Int → Int → Int → List (S55) → List (S48) → Int → List Int → Int → List Int → List (S42) → Int → Int → Int → Int → Int → Int → Int → Option ((List (S48)))
  | 0, _, _, _, _, _, _, _, _, _, _, _, _, _, _, _, _, _, _ => none
  | k + 1, x1, x2, x3, x4, x5, x13, x14, x16, x17, x213000, x213001, x213002, x224000, x224001, x224002, x224003, x224004, x224005 => if x17 < (x16.length : Int) then (if 0 ≤ x17 then (if x13.length < 2932031007402 then (pacelineref08_Spread.l1 k x1 x2 x3 x4 x5 (x13 ++ [(⟨(⟨x224000, x224001, x224002⟩ : S46), rd x16 x17, x224004, x224005⟩ : S48)]) x14 x16 (wrap64 (x17 + 1)) x213000 x213001 x213002 x224000 x224001 x224002 (rd x16 x17) x224004 x224005) else (none)) else (none)) else (pacelineref08_Spread.l0 k x1 x2 x3 x4 x5 x13 (wrap64 (x14 + 1)) x213000 x213001 x213002)
end
def pacelineref08_Spread.f (k : Nat) (l0_0 : List Int) (l0_1 : List (S42)) (a0_2 : Int) (a1 : Int) (a2 : Int) (a3 : Int) (a4 : Int) (l5 : List (S55)) : Option ((List (S48))) := pacelineref08_Spread.l0 k a1 a2 a3 a4 l5 (([] : List (S48))) 0 l0_0 l0_1 a0_2
theorem pacelineref08_Spread.mono_l : ∀ k, (∀ y0 y1 y2 y3 y4 y5 y6 y7 y8 y9, LeO (pacelineref08_Spread.l0 k y0 y1 y2 y3 y4 y5 y6 y7 y8 y9) (pacelineref08_Spread.l0 (k + 1) y0 y1 y2 y3 y4 y5 y6 y7 y8 y9)) ∧ (∀ y0 y1 y2 y3 y4 y5 y6 y7 y8 y9 y10 y11 y12 y13 y14 y15 y16 y17, LeO (pacelineref08_Spread.l1 k y0 y1 y2 y3 y4 y5 y6 y7 y8 y9 y10 y11 y12 y13 y14 y15 y16 y17) (pacelineref08_Spread.l1 (k + 1) y0 y1 y2 y3 y4 y5 y6 y7 y8 y9 y10 y11 y12 y13 y14 y15 y16 y17))
  | 0 => ⟨fun _ _ _ _ _ _ _ _ _ _ r h => by simp [pacelineref08_Spread.l0] at h, fun _ _ _ _ _ _ _ _ _ _ _ _ _ _ _ _ _ _ r h => by simp [pacelineref08_Spread.l1] at h⟩
  | k + 1 => by
    obtain ⟨ih0, ih1⟩ := pacelineref08_Spread.mono_l k
    refine ⟨?_, ?_⟩
    · intro y0 y1 y2 y3 y4 y5 y6 y7 y8 y9
      unfold pacelineref08_Spread.l0
      repeat' first
      | (with_reducible exact ih0 _ _ _ _ _ _ _ _ _ _)
      | (with_reducible exact ih1 _ _ _ _ _ _ _ _ _ _ _ _ _ _ _ _ _ _)
      | (with_reducible exact pacelineref08_Routes.mono _ _ _ _ _ _)
      | (with_reducible exact LeO.refl _)
      | (with_reducible exact LeO.none _)
      | (with_reducible refine LeO.ite ?_ ?_)
      | (with_reducible refine LeO.bind ?_ (fun _ => ?_))
      | exact ih0 _ _ _ _ _ _ _ _ _ _
      | exact ih1 _ _ _ _ _ _ _ _ _ _ _ _ _ _ _ _ _ _
      | exact pacelineref08_Routes.mono _ _ _ _ _ _
      | exact LeO.none _
      | refine LeO.ite ?_ ?_
      | refine LeO.bind ?_ (fun _ => ?_)
    · intro y0 y1 y2 y3 y4 y5 y6 y7 y8 y9 y10 y11 y12 y13 y14 y15 y16 y17
      unfold pacelineref08_Spread.l1
      repeat' first
      | (with_reducible exact ih0 _ _ _ _ _ _ _ _ _ _)
      | (with_reducible exact ih1 _ _ _ _ _ _ _ _ _ _ _ _ _ _ _ _ _ _)
      | (with_reducible exact pacelineref08_Routes.mono _ _ _ _ _ _)
      | (with_reducible exact LeO.refl _)
      | (with_reducible exact LeO.none _)
      | (with_reducible refine LeO.ite ?_ ?_)
      | (with_reducible refine LeO.bind ?_ (fun _ => ?_))
      | exact ih0 _ _ _ _ _ _ _ _ _ _
      | exact ih1 _ _ _ _ _ _ _ _ _ _ _ _ _ _ _ _ _ _
      | exact pacelineref08_Routes.mono _ _ _ _ _ _
      | exact LeO.none _
      | refine LeO.ite ?_ ?_
      | refine LeO.bind ?_ (fun _ => ?_)
theorem pacelineref08_Spread.mono : ∀ a0 a1 a2 a3 a4 a5 a6 a7 k, LeO (pacelineref08_Spread.f k a0 a1 a2 a3 a4 a5 a6 a7) (pacelineref08_Spread.f (k + 1) a0 a1 a2 a3 a4 a5 a6 a7) := by
  intro a0 a1 a2 a3 a4 a5 a6 a7 k
  obtain ⟨ih0, ih1⟩ := pacelineref08_Spread.mono_l k
  unfold pacelineref08_Spread.f
  repeat' first
      | (with_reducible exact ih0 _ _ _ _ _ _ _ _ _ _)
      | (with_reducible exact ih1 _ _ _ _ _ _ _ _ _ _ _ _ _ _ _ _ _ _)
      | (with_reducible exact pacelineref08_Routes.mono _ _ _ _ _ _)
      | (with_reducible exact LeO.refl _)
      | (with_reducible exact LeO.none _)
      | (with_reducible refine LeO.ite ?_ ?_)
      | (with_reducible refine LeO.bind ?_ (fun _ => ?_))
      | exact ih0 _ _ _ _ _ _ _ _ _ _
      | exact ih1 _ _ _ _ _ _ _ _ _ _ _ _ _ _ _ _ _ _
      | exact pacelineref08_Routes.mono _ _ _ _ _ _
      | exact LeO.none _
      | refine LeO.ite ?_ ?_
      | refine LeO.bind ?_ (fun _ => ?_)
set_option maxHeartbeats 8000000 in
set_option maxRecDepth 100000 in
theorem pacelineref08_Spread.calls (k : Nat) (A0_0 : Option Addr) (c0_0 : Nat) (l0_0 : List Int) (A0_1 : Option Addr) (c0_1 : Nat) (l0_1 : List (S42)) (a0_2 : Int) (a1 : Int) (a2 : Int) (a3 : Int) (a4 : Int) (A5 : Option Addr) (c5 : Nat) (l5 : List (S55)) (r : List (S48)) (w : World) (hr0_0 : Kd.C (Kd.int .i64) w A0_0 l0_0.length l0_0) (hc0_0 : l0_0.length ≤ c0_0) (hr0_1 : Kd.C k42 w A0_1 l0_1.length l0_1) (hc0_1 : l0_1.length ≤ c0_1) (hr5 : Kd.C k55 w A5 l5.length l5) (hc5 : l5.length ≤ c5) (h : pacelineref08_Spread.f k l0_0 l0_1 a0_2 a1 a2 a3 a4 l5 = some r) :
    Calls Try.prog 17 #[.agg #[.slice A0_0 l0_0.length c0_0, .slice A0_1 l0_1.length c0_1, .int .i64 a0_2], .int .i64 a1, .int .i64 a2, .int .i64 a3, .int .i64 a4, .slice A5 l5.length c5] w fun e w' => ∃ v0_ : Value, e = .returned (v0_) ∧ Kd.R k48 48 w' w.heap.size (fun _ => True) v0_ r ∧ Below w.heap.size w w' := by
  have hu25 := Try.underlying25
  have hu55 := Try.underlying55
  have hu48 := Try.underlying48
  have HR0_0 := Aside0.mk hr0_0
  have HC0_0 := Aside0.mk hc0_0
  clear hr0_0 hc0_0
  have HR0_1 := Aside0.mk hr0_1
  have HC0_1 := Aside0.mk hc0_1
  clear hr0_1 hc0_1
  have HR5 := Aside0.mk hr5
  have HC5 := Aside0.mk hc5
  clear hr5 hc5
  have HB := Aside0.mk (Below.refl w.heap.size w)
  have H : (pacelineref08_Spread.l0 k a1 a2 a3 a4 l5 (([] : List (S48))) 0 l0_0 l0_1 a0_2) = some r := h
  clear h
  obtain ⟨y213, hy213⟩ : ∃ y_ : List (S48), y_ = (([] : List (S48))) := ⟨_, rfl⟩
  replace H : (pacelineref08_Spread.l0 k a1 a2 a3 a4 l5 y213 0 l0_0 l0_1 a0_2) = some r := by first | (rw [hy213]; with_reducible exact H) | (have H2_ := (Option.bind_some _ _).symm.trans H; rw [hy213]; with_reducible exact H2_) | (have H2_ := (Option.bind_some _ _).symm.trans H; with_reducible exact H2_) | with_reducible exact H | (rw [hy213]; exact H) | exact H
  have Ny213 := Aside0.mk hy213
  clear hy213
  have H' := Aside0.mk H
  clear H
  go_enter Try.func17, Try.ntmps17
  go_wp2_with (first | ((with_reducible refine gate_dst (N := 6) rfl ?_); refine box_event ?hg (N := 6) ?hd (cs := #[.slice A0_0 l0_0.length c0_0, .slice A0_1 l0_1.length c0_1, .int .i64 a0_2]) (t := 25) ?hr ?_; (case hd => rfl); (case hg => rfl); (case hr => first | (go_simp; done) | (go_simp; rfl)); intro gb212 hg w7 hbox hb; have n0_ := Aside0.mk (below_step (by repeat (first | (with_reducible first | exact HB.out | apply below_alloc | apply pw_below_drewN | apply below_drew1) | exact HB.out)) hb); have n1_ := Aside0.mk (hbox); have n2_ := Aside0.mk ((by rw [hg]; exact (below_size (by repeat (first | (with_reducible first | exact HB.out | apply below_alloc | apply pw_below_drewN | apply below_drew1) | exact HB.out))) : w.heap.size ≤ gb212)); have n3_ := Aside0.mk ((by rw [hg]; exact (below_size (by repeat (first | (with_reducible first | exact HB.out | apply below_alloc | apply pw_below_drewN | apply below_drew1) | exact HB.out))) : w.heap.size ≤ gb212)); clear HB; have HB := n0_; have BK212 := n1_; have GW212 := n2_; have GE212 := n3_; clear n0_ n1_ n2_ n3_; clear hb hbox hg) | ((with_reducible refine gate_dst (N := 18) rfl ?_); refine Kd.R_lit k48 _ 48 ?hg (N := 18) ?hd (xs := ([] : List (S48))) (inner := []) (ok := fun _ => True) (okp := fun _ => True) ?hr ?hp (fun _ hk => hk) trivial (Below.refl _ _) (Nat.le_refl _) (by simp) ?_; (case hd => rfl); (case hg => rfl); (case hr => first | (go_simp; done) | (go_simp; rfl)); (case hp => exact (Reps.none _ _)); intro v214 w8 ho9 hb hg_ hnew_; clear hg_ hnew_; (first | rw [← Ny213.out] at ho9 | (simp only [Int.reduceToNat] at ho9; rw [← Ny213.out] at ho9)); have n0_ := Aside0.mk (Kd.R_lower ho9 (below_size (by repeat (first | (with_reducible first | exact HB.out | apply below_alloc | apply pw_below_drewN | apply below_drew1 | refine below_set ?_ GE212.out) | exact HB.out)))); have n1_ := Aside0.mk (blk_below (g := gb212) (o := .cells #[.slice A0_0 l0_0.length c0_0, .slice A0_1 l0_1.length c0_1, .int .i64 a0_2] 25 (0, 0)) (by (with_reducible repeat (first | refine blk_drewN ?_ _ | refine blk_drew ?_ | refine blk_alloc ?_ _)); exact BK212.out) hb); have n2_ := Aside0.mk (below_step (by repeat (first | (with_reducible first | exact HB.out | apply below_alloc | apply pw_below_drewN | apply below_drew1 | refine below_set ?_ GE212.out) | exact HB.out)) hb); clear BK212; clear HB; have HO215 := n0_; have BK212 := n1_; have HB := n2_; clear n0_ n1_ n2_; clear hb ho9))
  go_loopg [13, 14] k (fun kq v13 v14 w' => ∃ (x13_1 : List (S48)) (x14_1 : Int), v14 = .int .i64 x14_1 ∧ Aside0 (pacelineref08_Spread.l0 kq a1 a2 a3 a4 l5 x13_1 x14_1 l0_0 l0_1 a0_2 = some r) ∧ Aside0 (kq ≤ k) ∧ Aside0 (Kd.R k48 48 w' w.heap.size (fun _ => True) v13 x13_1) ∧ Aside0 (w'.heap[gb212]? = some (.cells #[(.slice A0_0 l0_0.length c0_0), (.slice A0_1 l0_1.length c0_1), .int .i64 a0_2] 25 (0, 0))) ∧ Aside0 (Below w.heap.size w w'))
  case atStart => exact ⟨(y213), (0), (by first | rfl | (simp; done) | (simp [*]; done)), H', ⟨Nat.le_refl _⟩, ⟨by (with_reducible repeat (first | apply Kd.R_alloc | apply Kd.R_drewN | apply Kd.R_drew)); exact HO215.out⟩, ⟨by (with_reducible repeat (first | refine blk_drewN ?_ _ | refine blk_drew ?_ | refine blk_alloc ?_ _)); exact BK212.out⟩, ⟨by repeat (first | (with_reducible first | exact HB.out | apply below_alloc | apply pw_below_drewN | apply below_drew1 | refine below_set ?_ GE212.out) | exact HB.out)⟩⟩
  case round =>
    clear H'
    try clear c1
    try clear p2
    try clear c5
    obtain ⟨x13_1, x14_1, rfl, HA, HK1, HO_13, BK212, HB⟩ := hrel
    cases gk with
    | zero => exact absurd HA.out (by simp [pacelineref08_Spread.l0])
    | succ k1 =>
      have H := HA.out
      clear HA
      simp only [pacelineref08_Spread.l0] at H
      by_cases c10 : x14_1 < (l5.length : Int)
      · rw [if_pos c10] at H
        have c10b0 : decide (x14_1 < (l5.length : Int)) = true := decide_eq_true c10
        clear c10
        by_cases c11 : 0 ≤ x14_1
        · rw [if_pos c11] at H
          have c11b0 : decide (0 ≤ x14_1) = true := decide_eq_true c11
          clear c11
          replace H := Option.bind_eq_some_iff.mp H
          obtain ⟨⟨t217, t218, t219, t220, t221, t222⟩, A120, H⟩ := H
          replace H : ((pacelineref08_Routes.f k1 l0_0 l0_1 a0_2 a1 t221).bind fun t224 => (pacelineref08_Spread.l1 k1 a1 a2 a3 a4 l5 x13_1 x14_1 t224 0 l0_0 l0_1 a0_2 t217 t218 t219 t220 t221 t222)) = some r := H
          have A12 := Aside0.mk A120
          clear A120
          replace H := Option.bind_eq_some_iff.mp H
          obtain ⟨t224, A130, H⟩ := H
          replace H : (pacelineref08_Spread.l1 k1 a1 a2 a3 a4 l5 x13_1 x14_1 t224 0 l0_0 l0_1 a0_2 t217 t218 t219 t220 t221 t222) = some r := H
          have A13 := Aside0.mk A130
          clear A130
          have H' := Aside0.mk H
          clear H
          have p216 : 0 ≤ (x14_1 : Int) := of_decide_eq_true (by first | (with_reducible assumption) | assumption)
          have q216 : x14_1 < (l5.length : Int) := of_decide_eq_true (by first | (with_reducible assumption) | assumption)
          obtain ⟨ad216, e216, hx216_0, hx216_1, hx216_2⟩ := at_T55 HR5.out x14_1 p216 q216
          cases e216
          replace hx216_0 := (HB.out.cell (World.block_lt_of_cell? w _ hx216_0)).trans hx216_0
          replace hx216_1 := (HB.out.cell (World.block_lt_of_cell? w _ hx216_1)).trans hx216_1
          replace hx216_2 := (HB.out.cell (World.block_lt_of_cell? w _ hx216_2)).trans hx216_2
          replace p216 := eq_true p216
          replace q216 := eq_true q216
          go_wp2_with (first | ((with_reducible refine gate_callee (f := 34) rfl ?_); refine goesL_ (some 35) rfl rfl Try.func34 (by kernel_rfl) rfl #[.int .i64 a1, .int .i64 (wrap64 (a2 + x14_1)), .int .i64 a3, .int .i64 a4, .agg #[.int .i64 ((rd_T55 l5 x14_1).f0), .int .i64 ((rd_T55 l5 x14_1).f1), .int .i64 ((rd_T55 l5 x14_1).f2)]] rfl (by (try simp only [List.map_toArray, List.map_cons, List.map_nil]); first | done | rfl | (simp only [List.length_drop, List.length_take]; rfl)) ?_; (with_reducible refine (pacelineref07_Sent.calls a1 (wrap64 (a2 + x14_1)) a3 a4 ((rd_T55 l5 x14_1).f0) ((rd_T55 l5 x14_1).f1) ((rd_T55 l5 x14_1).f2) t217 t218 t219 t220 t221 t222 _ A12.out).mono ?_); rintro e w14 ⟨rfl, hb⟩; refine ⟨_, rfl, ?_⟩; have n0_ := Aside0.mk (Kd.R_below (by (with_reducible repeat (first | apply Kd.R_alloc | apply Kd.R_drewN | apply Kd.R_drew)); exact HO_13.out) hb); have n1_ := Aside0.mk (blk_below (g := gb212) (o := .cells #[.slice A0_0 l0_0.length c0_0, .slice A0_1 l0_1.length c0_1, .int .i64 a0_2] 25 (0, 0)) (by (with_reducible repeat (first | refine blk_drewN ?_ _ | refine blk_drew ?_ | refine blk_alloc ?_ _)); exact BK212.out) hb); have n2_ := Aside0.mk (below_step (by repeat (first | (with_reducible first | exact HB.out | apply below_alloc | apply pw_below_drewN | apply below_drew1 | refine below_set ?_ GE212.out) | exact HB.out)) hb); clear HO_13; clear BK212; clear HB; have HO_13 := n0_; have BK212 := n1_; have HB := n2_; clear n0_ n1_ n2_; (try clear hb); (try clear hb2); (try clear hk); (try clear hi)) | ((with_reducible refine gate_dst (N := 15) rfl ?_); refine box_event ?hg (N := 15) ?hd (cs := #[.int .i64 0, .int .i64 0, .int .i64 0, .int .i64 0, .int .i64 0, .int .i64 0]) (t := 48) ?hr ?_; (case hd => rfl); (case hg => rfl); (case hr => first | (go_simp; done) | (go_simp; rfl)); intro gb223 hg w15 hbox hb; have n0_ := Aside0.mk (Kd.R_below (Kd.R_elderB (by (with_reducible repeat (first | apply Kd.R_alloc | apply Kd.R_drewN | apply Kd.R_drew)); exact HO_13.out) gb223 (Nat.le_of_eq hg.symm)) hb); have n1_ := Aside0.mk (blk_below (g := gb212) (o := .cells #[.slice A0_0 l0_0.length c0_0, .slice A0_1 l0_1.length c0_1, .int .i64 a0_2] 25 (0, 0)) (by (with_reducible repeat (first | refine blk_drewN ?_ _ | refine blk_drew ?_ | refine blk_alloc ?_ _)); exact BK212.out) hb); have n2_ := Aside0.mk (below_step (by repeat (first | (with_reducible first | exact HB.out | apply below_alloc | apply pw_below_drewN | apply below_drew1 | refine below_set ?_ GE212.out) | exact HB.out)) hb); have n3_ := Aside0.mk (hbox); have n4_ := Aside0.mk ((by rw [hg]; exact (below_size (by repeat (first | (with_reducible first | exact HB.out | apply below_alloc | apply pw_below_drewN | apply below_drew1 | refine below_set ?_ GE212.out) | exact HB.out))) : w.heap.size ≤ gb223)); have n5_ := Aside0.mk ((by rw [hg]; exact (below_size (by repeat (first | (with_reducible first | exact HB.out | apply below_alloc | apply pw_below_drewN | apply below_drew1 | refine below_set ?_ GE212.out) | exact HB.out))) : w.heap.size ≤ gb223)); have n6_ := Aside0.mk ((by rw [hg]; exact Nat.ne_of_lt (blk_lt (g := gb212) (o := .cells #[.slice A0_0 l0_0.length c0_0, .slice A0_1 l0_1.length c0_1, .int .i64 a0_2] 25 (0, 0)) (by (with_reducible repeat (first | refine blk_drewN ?_ _ | refine blk_drew ?_ | refine blk_alloc ?_ _)); exact BK212.out)) : gb212 ≠ gb223)); have n7_ := Aside0.mk ((by rw [hg]; exact Nat.ne_of_gt (blk_lt (g := gb212) (o := .cells #[.slice A0_0 l0_0.length c0_0, .slice A0_1 l0_1.length c0_1, .int .i64 a0_2] 25 (0, 0)) (by (with_reducible repeat (first | refine blk_drewN ?_ _ | refine blk_drew ?_ | refine blk_alloc ?_ _)); exact BK212.out)) : gb223 ≠ gb212)); clear HO_13; clear BK212; clear HB; have HO_13 := n0_; have BK212 := n1_; have HB := n2_; have BK223 := n3_; have GW223 := n4_; have GE223 := n5_; have NB212_223 := n6_; have NB223_212 := n7_; clear n0_ n1_ n2_ n3_ n4_ n5_ n6_ n7_; clear hb hbox hg; have hnb16 := NB223_212.out; have hnc16 := NB212_223.out; have hcz17_0 : w15.cell? ⟨gb223, 0, none⟩ = some (.int .i64 0) := (blk_cell BK223.out 0).trans rfl; have hcz17_1 : w15.cell? ⟨gb223, 1, none⟩ = some (.int .i64 0) := (blk_cell BK223.out 1).trans rfl; have hcz17_2 : w15.cell? ⟨gb223, 2, none⟩ = some (.int .i64 0) := (blk_cell BK223.out 2).trans rfl; have hcz17_3 : w15.cell? ⟨gb223, 3, none⟩ = some (.int .i64 0) := (blk_cell BK223.out 3).trans rfl; have hcz17_4 : w15.cell? ⟨gb223, 4, none⟩ = some (.int .i64 0) := (blk_cell BK223.out 4).trans rfl; have hcz17_5 : w15.cell? ⟨gb223, 5, none⟩ = some (.int .i64 0) := (blk_cell BK223.out 5).trans rfl; have hfz17_0 := blk_frozen BK223.out 0; have hfz17_1 := blk_frozen BK223.out 1; have hfz17_2 := blk_frozen BK223.out 2; have hfz17_3 := blk_frozen BK223.out 3; have hfz17_4 := blk_frozen BK223.out 4; have hfz17_5 := blk_frozen BK223.out 5; have hcz18_0 : w15.cell? ⟨gb212, 0, none⟩ = some (.slice A0_0 l0_0.length c0_0) := (blk_cell BK212.out 0).trans rfl; have hcz18_1 : w15.cell? ⟨gb212, 1, none⟩ = some (.slice A0_1 l0_1.length c0_1) := (blk_cell BK212.out 1).trans rfl; have hcz18_2 : w15.cell? ⟨gb212, 2, none⟩ = some (.int .i64 a0_2) := (blk_cell BK212.out 2).trans rfl; have hfz18_0 := blk_frozen BK212.out 0; have hfz18_1 := blk_frozen BK212.out 1; have hfz18_2 := blk_frozen BK212.out 2) | ((with_reducible refine gate_callee (f := 14) rfl ?_); refine goesL_ (some 40) rfl rfl Try.func14 (by kernel_rfl) rfl #[.agg #[.slice A0_0 l0_0.length c0_0, .slice A0_1 l0_1.length c0_1, .int .i64 a0_2], .int .i64 a1, .int .i64 t221] rfl (by (try simp only [List.map_toArray, List.map_cons, List.map_nil]); first | done | rfl | (simp only [List.length_drop, List.length_take]; rfl)) ?_; (with_reducible refine (pacelineref08_Routes.calls k1 _ _ l0_0 _ _ l0_1 a0_2 a1 t221 t224 _ ?side1 ?side2 ?side3 ?side4 A13.out).mono ?_); (case side1 => exact Kd.C_below HR0_0.out (by repeat (first | (with_reducible first | exact HB.out | apply below_alloc | apply pw_below_drewN | apply below_drew1 | refine below_set ?_ GE212.out | refine below_set ?_ GE223.out) | exact HB.out))); (case side2 => exact HC0_0.out); (case side3 => exact Kd.C_below HR0_1.out (by repeat (first | (with_reducible first | exact HB.out | apply below_alloc | apply pw_below_drewN | apply below_drew1 | refine below_set ?_ GE212.out | refine below_set ?_ GE223.out) | exact HB.out))); (case side4 => exact HC0_1.out); rintro e w19 ⟨v225, rfl, ho0, hb⟩; refine ⟨_, rfl, ?_⟩; have n0_ := Aside0.mk (Kd.R_below (by (with_reducible repeat (first | apply Kd.R_alloc | apply Kd.R_drewN | apply Kd.R_drew)); exact (Kd.R_mono (Kd.R_far (p := ⟨gb223, 5, none⟩) (Kd.R_far (p := ⟨gb223, 4, none⟩) (Kd.R_far (p := ⟨gb223, 3, none⟩) (Kd.R_far (p := ⟨gb223, 2, none⟩) (Kd.R_far (p := ⟨gb223, 1, none⟩) (Kd.R_far (p := ⟨gb223, 0, none⟩) (Kd.R_mono HO_13.out (fun k_ hk => (⟨hk, hk.2⟩ : _ ∧ k_ ≠ gb223))) (fun _ hk => hk.2) (.int .i64 t217)) (fun _ hk => hk.2) (.int .i64 t218)) (fun _ hk => hk.2) (.int .i64 t219)) (fun _ hk => hk.2) (.int .i64 t220)) (fun _ hk => hk.2) (.int .i64 t221)) (fun _ hk => hk.2) (.int .i64 t222)) (fun _ h_ => h_.1))) hb); have n1_ := Aside0.mk (Kd.R_lower ho0 (below_size (by repeat (first | (with_reducible first | exact HB.out | apply below_alloc | apply pw_below_drewN | apply below_drew1 | refine below_set ?_ GE212.out | refine below_set ?_ GE223.out) | exact HB.out)))); have n2_ := Aside0.mk (blk_below (g := gb212) (o := .cells #[.slice A0_0 l0_0.length c0_0, .slice A0_1 l0_1.length c0_1, .int .i64 a0_2] 25 (0, 0)) (by (with_reducible repeat (first | refine blk_drewN ?_ _ | refine blk_drew ?_ | refine blk_alloc ?_ _)); refine blk_far ?_ NB212_223.out _; (with_reducible repeat (first | refine blk_drewN ?_ _ | refine blk_drew ?_ | refine blk_alloc ?_ _)); refine blk_far ?_ NB212_223.out _; (with_reducible repeat (first | refine blk_drewN ?_ _ | refine blk_drew ?_ | refine blk_alloc ?_ _)); refine blk_far ?_ NB212_223.out _; (with_reducible repeat (first | refine blk_drewN ?_ _ | refine blk_drew ?_ | refine blk_alloc ?_ _)); refine blk_far ?_ NB212_223.out _; (with_reducible repeat (first | refine blk_drewN ?_ _ | refine blk_drew ?_ | refine blk_alloc ?_ _)); refine blk_far ?_ NB212_223.out _; (with_reducible repeat (first | refine blk_drewN ?_ _ | refine blk_drew ?_ | refine blk_alloc ?_ _)); refine blk_far ?_ NB212_223.out _; (with_reducible repeat (first | refine blk_drewN ?_ _ | refine blk_drew ?_ | refine blk_alloc ?_ _)); exact BK212.out) hb); have n3_ := Aside0.mk (blk_below (g := gb223) (o := .cells #[.int .i64 t217, .int .i64 t218, .int .i64 t219, .int .i64 t220, .int .i64 t221, .int .i64 t222] 48 (0, 0)) (by (with_reducible repeat (first | refine blk_drewN ?_ _ | refine blk_drew ?_ | refine blk_alloc ?_ _)); refine blk_put (cs := #[.int .i64 t217, .int .i64 t218, .int .i64 t219, .int .i64 t220, .int .i64 t221, .int .i64 0]) ?_ 5 _ rfl; (with_reducible repeat (first | refine blk_drewN ?_ _ | refine blk_drew ?_ | refine blk_alloc ?_ _)); refine blk_put (cs := #[.int .i64 t217, .int .i64 t218, .int .i64 t219, .int .i64 t220, .int .i64 0, .int .i64 0]) ?_ 4 _ rfl; (with_reducible repeat (first | refine blk_drewN ?_ _ | refine blk_drew ?_ | refine blk_alloc ?_ _)); refine blk_put (cs := #[.int .i64 t217, .int .i64 t218, .int .i64 t219, .int .i64 0, .int .i64 0, .int .i64 0]) ?_ 3 _ rfl; (with_reducible repeat (first | refine blk_drewN ?_ _ | refine blk_drew ?_ | refine blk_alloc ?_ _)); refine blk_put (cs := #[.int .i64 t217, .int .i64 t218, .int .i64 0, .int .i64 0, .int .i64 0, .int .i64 0]) ?_ 2 _ rfl; (with_reducible repeat (first | refine blk_drewN ?_ _ | refine blk_drew ?_ | refine blk_alloc ?_ _)); refine blk_put (cs := #[.int .i64 t217, .int .i64 0, .int .i64 0, .int .i64 0, .int .i64 0, .int .i64 0]) ?_ 1 _ rfl; (with_reducible repeat (first | refine blk_drewN ?_ _ | refine blk_drew ?_ | refine blk_alloc ?_ _)); refine blk_put (cs := #[.int .i64 0, .int .i64 0, .int .i64 0, .int .i64 0, .int .i64 0, .int .i64 0]) ?_ 0 _ rfl; (with_reducible repeat (first | refine blk_drewN ?_ _ | refine blk_drew ?_ | refine blk_alloc ?_ _)); exact BK223.out) hb); have n4_ := Aside0.mk (below_step (by repeat (first | (with_reducible first | exact HB.out | apply below_alloc | apply pw_below_drewN | apply below_drew1 | refine below_set ?_ GE212.out | refine below_set ?_ GE223.out) | exact HB.out)) hb); clear HO_13; clear BK212; clear BK223; clear HB; have HO_13 := n0_; have HO226 := n1_; have BK212 := n2_; have BK223 := n3_; have HB := n4_; clear n0_ n1_ n2_ n3_ n4_; (try clear hb); (try clear hb2); (try clear hk); (try clear hi); (try clear ho0)))
          go_loopg [13, 17] k1 (fun kq v13 v17 w' => ∃ (x13_2 : List (S48)) (x17_2 : Int) (x224003_2 : Int), v17 = .int .i64 x17_2 ∧ Aside0 (pacelineref08_Spread.l1 kq a1 a2 a3 a4 l5 x13_2 x14_1 t224 x17_2 l0_0 l0_1 a0_2 t217 t218 t219 x224003_2 t221 t222 = some r) ∧ Aside0 (kq ≤ k1) ∧ Aside0 (Kd.R k48 48 w' w.heap.size (fun k_ => k_ ≠ gb223) v13 x13_2) ∧ Aside0 (Kd.R (Kd.int .i64) 3 w' w.heap.size (fun _ => True) v225 t224) ∧ Aside0 (w'.heap[gb212]? = some (.cells #[(.slice A0_0 l0_0.length c0_0), (.slice A0_1 l0_1.length c0_1), .int .i64 a0_2] 25 (0, 0))) ∧ Aside0 (w'.heap[gb223]? = some (.cells #[.int .i64 t217, .int .i64 t218, .int .i64 t219, .int .i64 x224003_2, .int .i64 t221, .int .i64 t222] 48 (0, 0))) ∧ Aside0 (Below w.heap.size w w'))
          case atStart => exact ⟨(x13_1), (0), (t220), (by first | rfl | (simp; done) | (simp [*]; done)), H', ⟨Nat.le_refl _⟩, ⟨by (with_reducible repeat (first | apply Kd.R_alloc | apply Kd.R_drewN | apply Kd.R_drew)); exact Kd.R_mono HO_13.out (fun _ hk => hk.2)⟩, ⟨by (with_reducible repeat (first | apply Kd.R_alloc | apply Kd.R_drewN | apply Kd.R_drew)); exact HO226.out⟩, ⟨by (with_reducible repeat (first | refine blk_drewN ?_ _ | refine blk_drew ?_ | refine blk_alloc ?_ _)); exact BK212.out⟩, ⟨by (with_reducible repeat (first | refine blk_drewN ?_ _ | refine blk_drew ?_ | refine blk_alloc ?_ _)); exact BK223.out⟩, ⟨by repeat (first | (with_reducible first | exact HB.out | apply below_alloc | apply pw_below_drewN | apply below_drew1 | refine below_set ?_ GE212.out | refine below_set ?_ GE223.out) | exact HB.out)⟩⟩
          case round =>
            clear H'
            try clear c1
            try clear p2
            try clear q2
            try clear hx2
            try clear c3
            try clear c5
            try clear p6
            try clear c10
            try clear c10b0
            try clear c11
            try clear c11b0
            try clear c14
            try clear c16
            try clear c17
            try clear hcz17_0
            try clear hcz17_1
            try clear hcz17_2
            try clear hcz17_3
            try clear hcz17_4
            try clear hcz17_5
            try clear hcz18_0
            try clear hcz18_1
            try clear hcz18_2
            try clear hfz17_0
            try clear hfz17_1
            try clear hfz17_2
            try clear hfz17_3
            try clear hfz17_4
            try clear hfz17_5
            try clear hfz18_0
            try clear hfz18_1
            try clear hfz18_2
            try clear hx216_0
            try clear hx216_1
            try clear hx216_2
            try clear p2
            try clear p216
            try clear q216
            obtain ⟨x13_2, x17_2, x224003_2, rfl, HA, HK2, HO_13, HO_16, BK212, BK223, HB⟩ := hrel
            cases gk with
            | zero => exact absurd HA.out (by simp [pacelineref08_Spread.l1])
            | succ k2 =>
              have H := HA.out
              clear HA
              simp only [pacelineref08_Spread.l1] at H
              by_cases c20 : x17_2 < (t224.length : Int)
              · rw [if_pos c20] at H
                have c20b0 : decide (x17_2 < (t224.length : Int)) = true := decide_eq_true c20
                clear c20
                by_cases c21 : 0 ≤ x17_2
                · rw [if_pos c21] at H
                  have c21b0 : decide (0 ≤ x17_2) = true := decide_eq_true c21
                  clear c21
                  by_cases c22 : x13_2.length < 2932031007402
                  · rw [if_pos c22] at H
                    have LMc22 := Aside0.mk c22
                    clear c22
                    obtain ⟨y228, hy228⟩ : ∃ y_ : List (S48), y_ = (x13_2 ++ [(⟨(⟨t217, t218, t219⟩ : S46), rd t224 x17_2, t221, t222⟩ : S48)]) := ⟨_, rfl⟩
                    replace H : (pacelineref08_Spread.l1 k2 a1 a2 a3 a4 l5 y228 x14_1 t224 (wrap64 (x17_2 + 1)) l0_0 l0_1 a0_2 t217 t218 t219 (rd t224 x17_2) t221 t222) = some r := by first | (rw [hy228]; with_reducible exact H) | (have H2_ := (Option.bind_some _ _).symm.trans H; rw [hy228]; with_reducible exact H2_) | (have H2_ := (Option.bind_some _ _).symm.trans H; with_reducible exact H2_) | with_reducible exact H | (rw [hy228]; exact H) | exact H
                    have Ny228 := Aside0.mk hy228
                    clear hy228
                    have H' := Aside0.mk H
                    clear H
                    obtain ⟨Ao23, co23, eo23⟩ := Kd.R_slice HO_16.out
                    subst eo23
                    have p227 : 0 ≤ (x17_2 : Int) := of_decide_eq_true (by first | (with_reducible assumption) | assumption)
                    have q227 : x17_2 < (t224.length : Int) := of_decide_eq_true (by first | (with_reducible assumption) | assumption)
                    obtain ⟨ad227, e227, hx227_0⟩ := Kd.at_int (Kd.R_reads' HO_16.out).2.2 x17_2 p227 q227
                    cases e227
                    replace p227 := eq_true p227
                    replace q227 := eq_true q227
                    have hnb24 := NB223_212.out
                    have hnc24 := NB212_223.out
                    have hcz25_0 : wr.cell? ⟨gb223, 0, none⟩ = some (.int .i64 t217) := (blk_cell BK223.out 0).trans rfl
                    have hcz25_1 : wr.cell? ⟨gb223, 1, none⟩ = some (.int .i64 t218) := (blk_cell BK223.out 1).trans rfl
                    have hcz25_2 : wr.cell? ⟨gb223, 2, none⟩ = some (.int .i64 t219) := (blk_cell BK223.out 2).trans rfl
                    have hcz25_3 : wr.cell? ⟨gb223, 3, none⟩ = some (.int .i64 x224003_2) := (blk_cell BK223.out 3).trans rfl
                    have hcz25_4 : wr.cell? ⟨gb223, 4, none⟩ = some (.int .i64 t221) := (blk_cell BK223.out 4).trans rfl
                    have hcz25_5 : wr.cell? ⟨gb223, 5, none⟩ = some (.int .i64 t222) := (blk_cell BK223.out 5).trans rfl
                    have hfz25_0 := blk_frozen BK223.out 0
                    have hfz25_1 := blk_frozen BK223.out 1
                    have hfz25_2 := blk_frozen BK223.out 2
                    have hfz25_3 := blk_frozen BK223.out 3
                    have hfz25_4 := blk_frozen BK223.out 4
                    have hfz25_5 := blk_frozen BK223.out 5
                    go_wp2_with (first | ((with_reducible refine gate_builtin (b := .append) (xs := #[.tmp 52, .tmp 54]) rfl ?_); at_builtin; refine Kd.R_append k48 (w0 := w) w.heap.size rfl (.tmp 52) (.tmp 54) 34 48 (.agg #[(.int .i64 0), (.int .i64 0), (.int .i64 0), (.int .i64 0), (.int .i64 0), (.int .i64 0)]) 48 rfl Try.underlying34 info48 rfl (by decide) (by omega) u13 x13_2 (⟨(⟨t217, t218, t219⟩ : S46), rd t224 x17_2, t221, t222⟩ : S48) [.int .i64 t217, .int .i64 t218, .int .i64 t219, .int .i64 (rd t224 x17_2), .int .i64 t221, .int .i64 t222] (fun k_ => k_ ≠ gb223) (fun _ => False) rfl (by first | (go_simp; done) | (go_simp; rfl)) ?aP (fun _ hk => hk.elim) ?aF ?aO ?aB ?aS ?aL ?_; (case aP => exact k48_mkM _ _ _ (⟨(⟨t217, t218, t219⟩ : S46), rd t224 x17_2, t221, t222⟩ : S48)); (case aB => exact (by repeat (first | (with_reducible first | exact HB.out | apply below_alloc | apply pw_below_drewN | apply below_drew1 | refine below_set ?_ GE212.out | refine below_set ?_ GE223.out) | exact HB.out))); (case aF => exact (fun k_ hk => Kd.freshB (g := gb223) (o := .cells #[.int .i64 t217, .int .i64 t218, .int .i64 t219, .int .i64 (rd t224 x17_2), .int .i64 t221, .int .i64 t222] 48 (0, 0)) (by (with_reducible repeat (first | refine blk_drewN ?_ _ | refine blk_drew ?_ | refine blk_alloc ?_ _)); refine blk_put (cs := #[.int .i64 t217, .int .i64 t218, .int .i64 t219, .int .i64 x224003_2, .int .i64 t221, .int .i64 t222]) ?_ 3 _ rfl; (with_reducible repeat (first | refine blk_drewN ?_ _ | refine blk_drew ?_ | refine blk_alloc ?_ _)); exact BK223.out) k_ hk)); (case aO => exact (by (with_reducible repeat (first | apply Kd.R_alloc | apply Kd.R_drewN | apply Kd.R_drew)); exact Kd.R_mono (Kd.R_far (p := ⟨gb223, 3, none⟩) (Kd.R_mono HO_13.out (fun k_ hk => (⟨hk, hk⟩ : _ ∧ k_ ≠ gb223))) (fun _ hk => hk.2) (.int .i64 (rd t224 x17_2))) (fun _ hk => hk.1))); (case aS => exact (below_size (by repeat (first | (with_reducible first | exact HB.out | apply below_alloc | apply pw_below_drewN | apply below_drew1 | refine below_set ?_ GE212.out | refine below_set ?_ GE223.out) | exact HB.out)))); (case aL => have := LMc22.out; omega); intro v229 w26 ho hb hg hat; rw [← Ny228.out] at ho; have n0_ := Aside0.mk (Kd.R_over' (by (with_reducible repeat (first | apply Kd.R_alloc | apply Kd.R_drewN | apply Kd.R_drew)); exact (Kd.R_mono (Kd.R_far (p := ⟨gb223, 3, none⟩) (Kd.R_types HO_16.out BK223.out (by decide)) (fun _ hk => hk.2) (.int .i64 (rd t224 x17_2))) (fun _ h_ => h_.1))) (Kd.R_typed (by (with_reducible repeat (first | apply Kd.R_alloc | apply Kd.R_drewN | apply Kd.R_drew)); exact (Kd.R_mono (Kd.R_far (p := ⟨gb223, 3, none⟩) (Kd.R_mono HO_13.out (fun k_ hk => (⟨hk, hk⟩ : _ ∧ k_ ≠ gb223))) (fun _ hk => hk.2) (.int .i64 (rd t224 x17_2))) (fun _ h_ => h_.1)))) (by decide) hg); have n1_ := Aside0.mk (blk_grown (g := gb212) (o := .cells #[.slice A0_0 l0_0.length c0_0, .slice A0_1 l0_1.length c0_1, .int .i64 a0_2] 25 (0, 0)) (by (with_reducible repeat (first | refine blk_drewN ?_ _ | refine blk_drew ?_ | refine blk_alloc ?_ _)); refine blk_far ?_ NB212_223.out _; (with_reducible repeat (first | refine blk_drewN ?_ _ | refine blk_drew ?_ | refine blk_alloc ?_ _)); exact BK212.out) hg (Kd.R_ne HO_13.out BK212.out (by decide))); have n2_ := Aside0.mk (blk_grown (g := gb223) (o := .cells #[.int .i64 t217, .int .i64 t218, .int .i64 t219, .int .i64 (rd t224 x17_2), .int .i64 t221, .int .i64 t222] 48 (0, 0)) (by (with_reducible repeat (first | refine blk_drewN ?_ _ | refine blk_drew ?_ | refine blk_alloc ?_ _)); refine blk_put (cs := #[.int .i64 t217, .int .i64 t218, .int .i64 t219, .int .i64 x224003_2, .int .i64 t221, .int .i64 t222]) ?_ 3 _ rfl; (with_reducible repeat (first | refine blk_drewN ?_ _ | refine blk_drew ?_ | refine blk_alloc ?_ _)); exact BK223.out) hg (Kd.R_away HO_13.out (fun _ hk => hk))); have n3_ := Aside0.mk (hb); have n4_ := Aside0.mk (ho); clear HO_16; clear BK212; clear BK223; clear HB; clear HO_13; have HO_16 := n0_; have BK212 := n1_; have BK223 := n2_; have HB := n3_; have HO230 := n4_; clear n0_ n1_ n2_ n3_ n4_; clear ho hb hg hat))
                    go_roundg k2
                    case measure => have := HK1.out; have := HK2.out; omega
                    case rel => exact ⟨(y228), (wrap64 (x17_2 + 1)), (rd t224 x17_2), (by first | rfl | (simp; done) | (simp [*]; done)), H', ⟨by have := HK1.out; have := HK2.out; omega⟩, ⟨by (with_reducible repeat (first | apply Kd.R_alloc | apply Kd.R_drewN | apply Kd.R_drew)); exact HO230.out⟩, ⟨by (with_reducible repeat (first | apply Kd.R_alloc | apply Kd.R_drewN | apply Kd.R_drew)); exact HO_16.out⟩, ⟨by (with_reducible repeat (first | refine blk_drewN ?_ _ | refine blk_drew ?_ | refine blk_alloc ?_ _)); exact BK212.out⟩, ⟨by (with_reducible repeat (first | refine blk_drewN ?_ _ | refine blk_drew ?_ | refine blk_alloc ?_ _)); exact BK223.out⟩, ⟨by repeat (first | (with_reducible first | exact HB.out | apply below_alloc | apply pw_below_drewN | apply below_drew1 | refine below_set ?_ GE212.out | refine below_set ?_ GE223.out) | exact HB.out)⟩⟩
                  · rw [if_neg c22] at H
                    exact absurd H (by simp)
                · rw [if_neg c21] at H
                  exact absurd H (by simp)
              · rw [if_neg c20] at H
                have c20b0 : decide (x17_2 < (t224.length : Int)) = false := decide_eq_false c20
                clear c20
                have H' := Aside0.mk H
                clear H
                obtain ⟨Ao27, co27, eo27⟩ := Kd.R_slice HO_16.out
                subst eo27
                go_wp2
                go_roundg k2
                case measure => have := HK1.out; have := HK2.out; omega
                case rel => exact ⟨(x13_2), (wrap64 (x14_1 + 1)), (by first | rfl | (simp; done) | (simp [*]; done)), H', ⟨by have := HK1.out; have := HK2.out; omega⟩, ⟨by (with_reducible repeat (first | apply Kd.R_alloc | apply Kd.R_drewN | apply Kd.R_drew)); exact Kd.R_mono HO_13.out (fun _ hk => trivial)⟩, ⟨by (with_reducible repeat (first | refine blk_drewN ?_ _ | refine blk_drew ?_ | refine blk_alloc ?_ _)); exact BK212.out⟩, ⟨by repeat (first | (with_reducible first | exact HB.out | apply below_alloc | apply pw_below_drewN | apply below_drew1 | refine below_set ?_ GE212.out | refine below_set ?_ GE223.out) | exact HB.out)⟩⟩
        · rw [if_neg c11] at H
          exact absurd H (by simp)
      · rw [if_neg c10] at H
        have c10b0 : decide (x14_1 < (l5.length : Int)) = false := decide_eq_false c10
        clear c10
        obtain rfl := Option.some.inj H
        go_wp2
        go_ret
        exact ⟨_, by first | rfl | (simp [errW_none, errW_some] <;> rfl) | (simp [*, errW_none, errW_some] <;> rfl), by (with_reducible repeat (first | apply Kd.R_alloc | apply Kd.R_drewN | apply Kd.R_drew)); exact HO_13.out, by repeat (first | (with_reducible first | exact HB.out | apply below_alloc | apply pw_below_drewN | apply below_drew1 | refine below_set ?_ GE212.out) | exact HB.out)⟩

/-! ### pacelineref08_Starts: function 19 -/
def pacelineref08_Starts.l0 : Nat → List (S48) → Int → List Int → List (S42) → Int → Option ((List (S48)))
 | 0, _, _, _, _, _ => none
 | k + 1, x3, x4, x232000, x232001, x232002 => if x4 < (x232001.length : Int) then (if 0 ≤ x4 then ((pacelineref08_Spread.f k x232000 x232001 x232002 x4 0 0 0 ((rd_T42 x232001 x4).f6)).bind fun t236 => (if x3.length + t236.length < 2932031007402 then (pacelineref08_Starts.l0 k (x3 ++ t236) (wrap64 (x4 + 1)) x232000 x232001 x232002) else (none))) else (none)) else (some x3)
def pacelineref08_Starts.f (k : Nat) (l0_0 : List Int) (l0_1 : List (S42)) (a0_2 : Int) : Option ((List (S48))) := pacelineref08_Starts.l0 k (([] : List (S48))) 0 l0_0 l0_1 a0_2
theorem pacelineref08_Starts.mono_l : ∀ k, (∀ y0 y1 y2 y3 y4, LeO (pacelineref08_Starts.l0 k y0 y1 y2 y3 y4) (pacelineref08_Starts.l0 (k + 1) y0 y1 y2 y3 y4))
 | 0 => fun _ _ _ _ _ r h => by simp [pacelineref08_Starts.l0] at h
 | k + 1 => by
  have ih0 := pacelineref08_Starts.mono_l k
  ·intro y0 y1 y2 y3 y4
   unfold pacelineref08_Starts.l0
   repeat' first
   | (with_reducible exact ih0 _ _ _ _ _)
   | (with_reducible exact pacelineref08_Spread.mono _ _ _ _ _ _ _ _ _)
   | (with_reducible exact LeO.refl _)
   | (with_reducible exact LeO.none _)
   | (with_reducible refine LeO.ite ?_ ?_)
   | (with_reducible refine LeO.bind ?_ (fun _ => ?_))
   | exact ih0 _ _ _ _ _
   | exact pacelineref08_Spread.mono _ _ _ _ _ _ _ _ _
   | exact LeO.none _
   | refine LeO.ite ?_ ?_
   | refine LeO.bind ?_ (fun _ => ?_)
theorem pacelineref08_Starts.mono : ∀ a0 a1 a2 k, LeO (pacelineref08_Starts.f k a0 a1 a2) (pacelineref08_Starts.f (k + 1) a0 a1 a2) := by
 intro a0 a1 a2 k
 have ih0 := pacelineref08_Starts.mono_l k
 unfold pacelineref08_Starts.f
 repeat' first
   | (with_reducible exact ih0 _ _ _ _ _)
   | (with_reducible exact pacelineref08_Spread.mono _ _ _ _ _ _ _ _ _)
   | (with_reducible exact LeO.refl _)
   | (with_reducible exact LeO.none _)
   | (with_reducible refine LeO.ite ?_ ?_)
   | (with_reducible refine LeO.bind ?_ (fun _ => ?_))
   | exact ih0 _ _ _ _ _
   | exact pacelineref08_Spread.mono _ _ _ _ _ _ _ _ _
   | exact LeO.none _
   | refine LeO.ite ?_ ?_
   | refine LeO.bind ?_ (fun _ => ?_)
def pacelineref08_Starts.T5 : Bool × List (List Nat × List Nat) := (true, [([], []), ([], []), ([], []), ([], []), ([3], [3]), ([], []), ([4, 5], [4, 5]), ([6], [6]), ([7], [7]), ([1, 2, 8], [1, 2, 8]), ([0, 9, 9], [0, 9]), ([10, 10, 0, 1, 2, 3, 4, 5, 6, 7, 8, 9, 10], [0, 10])])
def pacelineref08_Starts.B5 : List Nat := [0, 0, 0, 0, 8, 0, 56, 120, 248, 510, 1023, 2047]
theorem pacelineref08_Starts.tab5 : rtab .any (opsOf Try.f19 5) = pacelineref08_Starts.T5 := by kernel_rfl
theorem pacelineref08_Starts.bits5 : waitsOk pacelineref08_Starts.T5.2 pacelineref08_Starts.B5 = true := by kernel_rfl
set_option maxHeartbeats 8000000 in
set_option maxRecDepth 100000 in
theorem pacelineref08_Starts.calls (k : Nat) (A0_0 : Option Addr) (c0_0 : Nat) (l0_0 : List Int) (A0_1 : Option Addr) (c0_1 : Nat) (l0_1 : List (S42)) (a0_2 : Int) (r : List (S48)) (w : World) (hr0_0 : Kd.C (Kd.int .i64) w A0_0 l0_0.length l0_0) (hc0_0 : l0_0.length ≤ c0_0) (hr0_1 : Kd.C k42 w A0_1 l0_1.length l0_1) (hc0_1 : l0_1.length ≤ c0_1) (h : pacelineref08_Starts.f k l0_0 l0_1 a0_2 = some r) :
  Calls Try.prog 19 #[.agg #[.slice A0_0 l0_0.length c0_0, .slice A0_1 l0_1.length c0_1, .int .i64 a0_2]] w fun e w' => ∃ v0_ : Value, e = .returned (v0_) ∧ Kd.R k48 48 w' w.heap.size (fun _ => True) v0_ r ∧ Below w.heap.size w w' := by
 have hu25 := Try.underlying25
 have HR0_0 := Aside0.mk hr0_0
 have HC0_0 := Aside0.mk hc0_0
 clear hr0_0 hc0_0
 have HR0_1 := Aside0.mk hr0_1
 have HC0_1 := Aside0.mk hc0_1
 clear hr0_1 hc0_1
 have HB := Aside0.mk (Below.refl w.heap.size w)
 have H : (pacelineref08_Starts.l0 k (([] : List (S48))) 0 l0_0 l0_1 a0_2) = some r := h
 clear h
 obtain ⟨y232, hy232⟩ : ∃ y_ : List (S48), y_ = (([] : List (S48))) := ⟨_, rfl⟩
 replace H : (pacelineref08_Starts.l0 k y232 0 l0_0 l0_1 a0_2) = some r := by first | (rw [hy232]; with_reducible exact H) | (have H2_ := (Option.bind_some _ _).symm.trans H; rw [hy232]; with_reducible exact H2_) | (have H2_ := (Option.bind_some _ _).symm.trans H; with_reducible exact H2_) | with_reducible exact H | (rw [hy232]; exact H) | exact H
 have Ny232 := Aside0.mk hy232
 clear hy232
 have H' := Aside0.mk H
 clear H
 go_enter Try.func19, Try.ntmps19
 go_wp2_with (first | ((with_reducible refine gate_dst (N := 1) rfl ?_); refine box_event ?hg (N := 1) ?hd (cs := #[.slice A0_0 l0_0.length c0_0, .slice A0_1 l0_1.length c0_1, .int .i64 a0_2]) (t := 25) ?hr ?_; (case hd => rfl); (case hg => rfl); (case hr => first | (go_simp; done) | (go_simp; rfl)); intro gb231 hg w2 hbox hb; have n0_ := Aside0.mk (below_step (by repeat (first | (with_reducible first | exact HB.out | apply below_alloc | apply pw_below_drewN | apply below_drew1) | exact HB.out)) hb); have n1_ := Aside0.mk (hbox); have n2_ := Aside0.mk ((by rw [hg]; exact (below_size (by repeat (first | (with_reducible first | exact HB.out | apply below_alloc | apply pw_below_drewN | apply below_drew1) | exact HB.out))) : w.heap.size ≤ gb231)); have n3_ := Aside0.mk ((by rw [hg]; exact (below_size (by repeat (first | (with_reducible first | exact HB.out | apply below_alloc | apply pw_below_drewN | apply below_drew1) | exact HB.out))) : w.heap.size ≤ gb231)); clear HB; have HB := n0_; have BK231 := n1_; have GW231 := n2_; have GE231 := n3_; clear n0_ n1_ n2_ n3_; clear hb hbox hg) | ((with_reducible refine gate_dst (N := 5) rfl ?_); refine Kd.R_lit k48 _ 48 ?hg (N := 5) ?hd (xs := ([] : List (S48))) (inner := []) (ok := fun _ => True) (okp := fun _ => True) ?hr ?hp (fun _ hk => hk) trivial (Below.refl _ _) (Nat.le_refl _) (by simp) ?_; (case hd => rfl); (case hg => rfl); (case hr => first | (go_simp; done) | (go_simp; rfl)); (case hp => exact (Reps.none _ _)); intro v233 w3 ho4 hb hg_ hnew_; clear hg_ hnew_; (first | rw [← Ny232.out] at ho4 | (simp only [Int.reduceToNat] at ho4; rw [← Ny232.out] at ho4)); have n0_ := Aside0.mk (Kd.R_lower ho4 (below_size (by repeat (first | (with_reducible first | exact HB.out | apply below_alloc | apply pw_below_drewN | apply below_drew1 | refine below_set ?_ GE231.out) | exact HB.out)))); have n1_ := Aside0.mk (blk_below (g := gb231) (o := .cells #[.slice A0_0 l0_0.length c0_0, .slice A0_1 l0_1.length c0_1, .int .i64 a0_2] 25 (0, 0)) (by (with_reducible repeat (first | refine blk_drewN ?_ _ | refine blk_drew ?_ | refine blk_alloc ?_ _)); exact BK231.out) hb); have n2_ := Aside0.mk (below_step (by repeat (first | (with_reducible first | exact HB.out | apply below_alloc | apply pw_below_drewN | apply below_drew1 | refine below_set ?_ GE231.out) | exact HB.out)) hb); clear BK231; clear HB; have HO234 := n0_; have BK231 := n1_; have HB := n2_; clear n0_ n1_ n2_; clear hb ho4))
 go_loopg [3, 4] k (fun kq v3 v4 w' => ∃ (x3_1 : List (S48)) (x4_1 : Int), v4 = .int .i64 x4_1 ∧ Aside0 (pacelineref08_Starts.l0 kq x3_1 x4_1 l0_0 l0_1 a0_2 = some r) ∧ Aside0 (kq ≤ k) ∧ Aside0 (Kd.R k48 48 w' w.heap.size (fun _ => True) v3 x3_1) ∧ Aside0 (w'.heap[gb231]? = some (.cells #[(.slice A0_0 l0_0.length c0_0), (.slice A0_1 l0_1.length c0_1), .int .i64 a0_2] 25 (0, 0))) ∧ Aside0 (Below w.heap.size w w'))
 case atStart => exact ⟨(y232), (0), (by first | rfl | (simp; done) | (simp [*]; done)), H', ⟨Nat.le_refl _⟩, ⟨by (with_reducible repeat (first | apply Kd.R_alloc | apply Kd.R_drewN | apply Kd.R_drew)); exact HO234.out⟩, ⟨by (with_reducible repeat (first | refine blk_drewN ?_ _ | refine blk_drew ?_ | refine blk_alloc ?_ _)); exact BK231.out⟩, ⟨by repeat (first | (with_reducible first | exact HB.out | apply below_alloc | apply pw_below_drewN | apply below_drew1 | refine below_set ?_ GE231.out) | exact HB.out)⟩⟩
 case round =>
  clear H'
  try clear c1
  try clear p2
  obtain ⟨x3_1, x4_1, rfl, HA, HK1, HO_3, BK231, HB⟩ := hrel
  cases gk with
  | zero => exact absurd HA.out (by simp [pacelineref08_Starts.l0])
  | succ k1 =>
   have H := HA.out
   clear HA
   simp only [pacelineref08_Starts.l0] at H
   by_cases c5 : x4_1 < (l0_1.length : Int)
   ·rw [if_pos c5] at H
    have c5b0 : decide (x4_1 < (l0_1.length : Int)) = true := decide_eq_true c5
    clear c5
    by_cases c6 : 0 ≤ x4_1
    ·rw [if_pos c6] at H
     have c6b0 : decide (0 ≤ x4_1) = true := decide_eq_true c6
     clear c6
     replace H := Option.bind_eq_some_iff.mp H
     obtain ⟨t236, A70, H⟩ := H
     replace H : (if x3_1.length + t236.length < 2932031007402 then (pacelineref08_Starts.l0 k1 (x3_1 ++ t236) (wrap64 (x4_1 + 1)) l0_0 l0_1 a0_2) else (none)) = some r := H
     have A7 := Aside0.mk A70
     clear A70
     by_cases c8 : x3_1.length + t236.length < 2932031007402
     ·rw [if_pos c8] at H
      have LMc8 := Aside0.mk c8
      clear c8
      obtain ⟨y239, hy239⟩ : ∃ y_ : List (S48), y_ = (x3_1 ++ t236) := ⟨_, rfl⟩
      replace H : (pacelineref08_Starts.l0 k1 y239 (wrap64 (x4_1 + 1)) l0_0 l0_1 a0_2) = some r := by first | (rw [hy239]; with_reducible exact H) | (have H2_ := (Option.bind_some _ _).symm.trans H; rw [hy239]; with_reducible exact H2_) | (have H2_ := (Option.bind_some _ _).symm.trans H; with_reducible exact H2_) | with_reducible exact H | (rw [hy239]; exact H) | exact H
      have Ny239 := Aside0.mk hy239
      clear hy239
      have H' := Aside0.mk H
      clear H
      have hcz9_0 : wr.cell? ⟨gb231, 0, none⟩ = some (.slice A0_0 l0_0.length c0_0) := (blk_cell BK231.out 0).trans rfl
      have hcz9_1 : wr.cell? ⟨gb231, 1, none⟩ = some (.slice A0_1 l0_1.length c0_1) := (blk_cell BK231.out 1).trans rfl
      have hcz9_2 : wr.cell? ⟨gb231, 2, none⟩ = some (.int .i64 a0_2) := (blk_cell BK231.out 2).trans rfl
      have hfz9_0 := blk_frozen BK231.out 0
      have hfz9_1 := blk_frozen BK231.out 1
      have hfz9_2 := blk_frozen BK231.out 2
      try go_wp2
      have n0_ := Aside0.mk (Kd.R_drew HO_3.out)
      have n1_ := Aside0.mk (blk_drew BK231.out)
      have n2_ := Aside0.mk (below_drew1 HB.out)
      clear HO_3
      clear BK231
      clear HB
      have HO_3 := n0_
      have BK231 := n1_
      have HB := n2_
      clear n0_ n1_ n2_
      have p235 : 0 ≤ (x4_1 : Int) := of_decide_eq_true (by first | (with_reducible assumption) | assumption)
      have q235 : x4_1 < (l0_1.length : Int) := of_decide_eq_true (by first | (with_reducible assumption) | assumption)
      obtain ⟨ad235, A235_3, c235_3, A235_4, c235_4, A235_5, c235_5, A235_6, c235_6, e235, hx235_0, hx235_1, hx235_2, hx235_3, hx235_4, hx235_5, hx235_6, hl235_3, hi235_3, hl235_4, hi235_4, hl235_5, hi235_5, hl235_6, hi235_6⟩ := at_T42 HR0_1.out x4_1 p235 q235
      have hw235_6 := hx235_6
      have hw235_5 := hx235_5
      have hw235_4 := hx235_4
      have hw235_3 := hx235_3
      have hw235_2 := hx235_2
      have hw235_1 := hx235_1
      have hw235_0 := hx235_0
      cases e235
      replace hx235_0 := (HB.out.cell (World.block_lt_of_cell? w _ hx235_0)).trans hx235_0
      replace hx235_1 := (HB.out.cell (World.block_lt_of_cell? w _ hx235_1)).trans hx235_1
      replace hx235_2 := (HB.out.cell (World.block_lt_of_cell? w _ hx235_2)).trans hx235_2
      replace hx235_3 := (HB.out.cell (World.block_lt_of_cell? w _ hx235_3)).trans hx235_3
      replace hx235_4 := (HB.out.cell (World.block_lt_of_cell? w _ hx235_4)).trans hx235_4
      replace hx235_5 := (HB.out.cell (World.block_lt_of_cell? w _ hx235_5)).trans hx235_5
      replace hx235_6 := (HB.out.cell (World.block_lt_of_cell? w _ hx235_6)).trans hx235_6
      have HR235_3 := Aside0.mk hi235_3
      have HC235_3 := Aside0.mk hl235_3
      clear hi235_3 hl235_3
      have HR235_4 := Aside0.mk hi235_4
      have HC235_4 := Aside0.mk hl235_4
      clear hi235_4 hl235_4
      have HR235_5 := Aside0.mk hi235_5
      have HC235_5 := Aside0.mk hl235_5
      clear hi235_5 hl235_5
      have HR235_6 := Aside0.mk hi235_6
      have HC235_6 := Aside0.mk hl235_6
      clear hi235_6 hl235_6
      replace p235 := eq_true p235
      replace q235 := eq_true q235
      refine start_ (n := 12) (S := fun w' => w'.cell? ⟨gb231, 0, none⟩ = some (.slice A0_0 l0_0.length c0_0) ∧ w'.cell? ⟨gb231, 1, none⟩ = some (.slice (some ad235) l0_1.length c0_1) ∧ w'.cell? ⟨gb231, 2, none⟩ = some (.int .i64 a0_2) ∧ w'.cell? (ad235.add ((x4_1).toNat * 7)) = some (.int .i64 ((rd_T42 l0_1 x4_1).f0)) ∧ w'.cell? ⟨(ad235.add ((x4_1).toNat * 7)).block, (ad235.add ((x4_1).toNat * 7)).off + 1, none⟩ = some (.int .i64 ((rd_T42 l0_1 x4_1).f1)) ∧ w'.cell? ⟨(ad235.add ((x4_1).toNat * 7)).block, (ad235.add ((x4_1).toNat * 7)).off + 2, none⟩ = some (.int .i64 ((rd_T42 l0_1 x4_1).f2)) ∧ w'.cell? ⟨(ad235.add ((x4_1).toNat * 7)).block, (ad235.add ((x4_1).toNat * 7)).off + 3, none⟩ = some (.slice A235_3 ((rd_T42 l0_1 x4_1).f3).length c235_3) ∧ w'.cell? ⟨(ad235.add ((x4_1).toNat * 7)).block, (ad235.add ((x4_1).toNat * 7)).off + 4, none⟩ = some (.slice A235_4 ((rd_T42 l0_1 x4_1).f4).length c235_4) ∧ w'.cell? ⟨(ad235.add ((x4_1).toNat * 7)).block, (ad235.add ((x4_1).toNat * 7)).off + 5, none⟩ = some (.slice A235_5 ((rd_T42 l0_1 x4_1).f5).length c235_5) ∧ w'.cell? ⟨(ad235.add ((x4_1).toNat * 7)).block, (ad235.add ((x4_1).toNat * 7)).off + 6, none⟩ = some (.slice A235_6 ((rd_T42 l0_1 x4_1).f6).length c235_6)) (ds := []) #[false, false, false, false, false, false, false, false, false, false, false, false] (by kernel_rfl) rfl rfl ⟨(blk_cell BK231.out 0).trans rfl, (blk_cell BK231.out 1).trans rfl, (blk_cell BK231.out 2).trans rfl, ((HB.out.cell (World.block_lt_of_cell? w _ hw235_0)).trans hw235_0), ((HB.out.cell (World.block_lt_of_cell? w _ hw235_1)).trans hw235_1), ((HB.out.cell (World.block_lt_of_cell? w _ hw235_2)).trans hw235_2), ((HB.out.cell (World.block_lt_of_cell? w _ hw235_3)).trans hw235_3), ((HB.out.cell (World.block_lt_of_cell? w _ hw235_4)).trans hw235_4), ((HB.out.cell (World.block_lt_of_cell? w _ hw235_5)).trans hw235_5), ((HB.out.cell (World.block_lt_of_cell? w _ hw235_6)).trans hw235_6)⟩ (fun hHeld => ?_); refine with_tabW pacelineref08_Starts.tab5 pacelineref08_Starts.bits5 (fun HT_ HW_ => ?_)
      generalize wr.drew = w10 at HO_3 BK231 HB HR235_3 HR235_4 HR235_5 HR235_6 hx235_0 hx235_1 hx235_2 hx235_3 hx235_4 hx235_5 hx235_6 hHeld ⊢
      refine pure_ (i := 0) (N := some 13) (v := ?_) (a' := ?_) #[true, false, false, false, false, false, false, false, false, false, false, false] rfl rfl (any_of HT_.out (by kernel_rfl)) (fun _ _ _ h => h) (Or.inl ⟨by rfl, ?_⟩) ?_ ?_
      rotate_left
      ·intro w'
       go_simp
       with_reducible rfl
      rotate_left
      ·simp only [Act.put, List.setIfInBounds_toArray, List.set_cons_zero, List.set_cons_succ, i64_w, i32_w]
       rfl
      refine pure_ (i := 2) (N := some 15) (v := ?_) (a' := ?_) #[true, false, true, false, false, false, false, false, false, false, false, false] rfl rfl (any_of HT_.out (by kernel_rfl)) (fun _ _ _ h => h) (Or.inl ⟨by rfl, ?_⟩) ?_ ?_
      rotate_left
      ·intro w'
       go_simp
       with_reducible rfl
      rotate_left
      ·simp only [Act.put, List.setIfInBounds_toArray, List.set_cons_zero, List.set_cons_succ, i64_w, i32_w]
       rfl
      refine pure_ (i := 3) (N := some 16) (v := ?_) (a' := ?_) #[true, false, true, true, false, false, false, false, false, false, false, false] rfl rfl (any_of HT_.out (by kernel_rfl)) (fun _ _ _ h => h) (Or.inl ⟨by rfl, ?_⟩) ?_ ?_
      rotate_left
      ·intro w'
       go_simp
       with_reducible rfl
      rotate_left
      ·simp only [Act.put, List.setIfInBounds_toArray, List.set_cons_zero, List.set_cons_succ, i64_w, i32_w]
       rfl
      refine pure_ (i := 5) (N := some 18) (v := ?_) (a' := ?_) #[true, false, true, true, false, true, false, false, false, false, false, false] rfl rfl (any_of HT_.out (by kernel_rfl)) (fun _ _ _ h => h) (Or.inl ⟨by rfl, ?_⟩) ?_ ?_
      rotate_left
      ·intro w'
       go_simp
       with_reducible rfl
      rotate_left
      ·simp only [Act.put, List.setIfInBounds_toArray, List.set_cons_zero, List.set_cons_succ, i64_w, i32_w]
       rfl
      refine take_ (i := 1) (N := some 14) (v := ?_) (a' := ?_) #[true, true, true, true, false, true, false, false, false, false, false, false] rfl rfl (take_ofW HT_.out HW_.out (by kernel_rfl)) (fun _ _ _ h => h) (Or.inl ⟨by rfl, ?_⟩) hHeld ?_ ?_
      rotate_left
      ·rintro w' ⟨s0, s1, s2, s3, s4, s5, s6, s7, s8, s9⟩
       go_simp
       with_reducible rfl
      rotate_left
      ·simp only [Act.put, List.setIfInBounds_toArray, List.set_cons_zero, List.set_cons_succ, i64_w, i32_w]
       rfl
      refine take_ (i := 4) (N := some 17) (v := ?_) (a' := ?_) #[true, true, true, true, true, true, false, false, false, false, false, false] rfl rfl (take_ofW HT_.out HW_.out (by kernel_rfl)) (fun _ _ _ h => h) (Or.inl ⟨by rfl, ?_⟩) hHeld ?_ ?_
      rotate_left
      ·rintro w' ⟨s0, s1, s2, s3, s4, s5, s6, s7, s8, s9⟩
       go_simp
       with_reducible rfl
      rotate_left
      ·simp only [Act.put, List.setIfInBounds_toArray, List.set_cons_zero, List.set_cons_succ, i64_w, i32_w]
       rfl
      refine pure_ (i := 6) (N := some 19) (v := ?_) (a' := ?_) #[true, true, true, true, true, true, true, false, false, false, false, false] rfl rfl (any_of HT_.out (by kernel_rfl)) (fun _ _ _ h => h) (Or.inl ⟨by rfl, ?_⟩) ?_ ?_
      rotate_left
      ·intro w'
       go_simp
       with_reducible rfl
      rotate_left
      ·simp only [Act.put, List.setIfInBounds_toArray, List.set_cons_zero, List.set_cons_succ, i64_w, i32_w]
       rfl
      refine pure_ (i := 7) (N := some 20) (v := ?_) (a' := ?_) #[true, true, true, true, true, true, true, true, false, false, false, false] rfl rfl (any_of HT_.out (by kernel_rfl)) (fun _ _ _ h => h) (Or.inl ⟨by rfl, ?_⟩) ?_ ?_
      rotate_left
      ·intro w'
       go_simp
       with_reducible rfl
      rotate_left
      ·simp only [Act.put, List.setIfInBounds_toArray, List.set_cons_zero, List.set_cons_succ, i64_w, i32_w]
       rfl
      refine take_ (i := 8) (N := some 21) (v := ?_) (a' := ?_) #[true, true, true, true, true, true, true, true, true, false, false, false] rfl rfl (take_ofW HT_.out HW_.out (by kernel_rfl)) (fun _ _ _ h => h) (Or.inl ⟨by rfl, ?_⟩) hHeld ?_ ?_
      rotate_left
      ·rintro w' ⟨s0, s1, s2, s3, s4, s5, s6, s7, s8, s9⟩
       go_simp
       with_reducible rfl
      rotate_left
      ·simp only [Act.put, List.setIfInBounds_toArray, List.set_cons_zero, List.set_cons_succ, i64_w, i32_w]
       rfl
      refine one_ (i := 9) (N := some 22) #[true, true, true, true, true, true, true, true, true, true, false, false] rfl rfl (one_of HT_.out (by kernel_rfl)) (by decide) (fun K hK => ?_)
      refine goes_ Try.func17 (by kernel_rfl) rfl #[.agg #[.slice A0_0 l0_0.length c0_0, .slice (some ad235) l0_1.length c0_1, .int .i64 a0_2], .int .i64 x4_1, .int .i64 0, .int .i64 0, .int .i64 0, .slice A235_6 ((rd_T42 l0_1 x4_1).f6).length c235_6] (by rfl) rfl rfl (by (try simp only [List.map_toArray, List.map_cons, List.map_nil]); first | done | rfl | (simp only [List.length_drop, List.length_take]; rfl)) ?_
      with_reducible refine (pacelineref08_Spread.calls k1 _ _ l0_0 _ _ l0_1 a0_2 x4_1 0 0 0 _ _ ((rd_T42 l0_1 x4_1).f6) t236 _ ?side1 ?side2 ?side3 ?side4 ?side5 ?side6 A7.out).mono ?_
      (case side1 => repeat (first | exact (Kd.C_below HR0_0.out HB.out) | (with_reducible refine Kd.C_alloc ?_ _) | (with_reducible refine Kd.C_drewN ?_ _) | (with_reducible refine Kd.C_drew ?_)))
      (case side2 => exact HC0_0.out)
      (case side3 => repeat (first | exact (Kd.C_below HR0_1.out HB.out) | (with_reducible refine Kd.C_alloc ?_ _) | (with_reducible refine Kd.C_drewN ?_ _) | (with_reducible refine Kd.C_drew ?_)))
      (case side4 => exact HC0_1.out)
      (case side5 => repeat (first | exact (Kd.C_below HR235_6.out HB.out) | (with_reducible refine Kd.C_alloc ?_ _) | (with_reducible refine Kd.C_drewN ?_ _) | (with_reducible refine Kd.C_drew ?_)))
      (case side6 => exact HC235_6.out)
      rintro e w11 ⟨v237, rfl, ho0, hb⟩
      refine ⟨_, rfl, ?_⟩
      have n0_ := Aside0.mk (Kd.R_elder' (by (with_reducible repeat (first | apply Kd.R_alloc | apply Kd.R_drewN | apply Kd.R_drew)); exact HO_3.out) (Kd.R_base ho0) hb)
      have n1_ := Aside0.mk (Kd.R_lower (Kd.R_new' ho0 (Kd.R_lt (by (with_reducible repeat (first | apply Kd.R_alloc | apply Kd.R_drewN | apply Kd.R_drew)); exact HO_3.out))) (below_size (by repeat (first | (with_reducible first | exact HB.out | apply below_alloc | apply pw_below_drewN | apply below_drew1 | refine below_set ?_ GE231.out) | exact HB.out))))
      have n2_ := Aside0.mk (blk_below (g := gb231) (o := .cells #[.slice A0_0 l0_0.length c0_0, .slice (some ad235) l0_1.length c0_1, .int .i64 a0_2] 25 (0, 0)) (by (with_reducible repeat (first | refine blk_drewN ?_ _ | refine blk_drew ?_ | refine blk_alloc ?_ _)); exact BK231.out) hb)
      have n3_ := Aside0.mk (below_step (by repeat (first | (with_reducible first | exact HB.out | apply below_alloc | apply pw_below_drewN | apply below_drew1 | refine below_set ?_ GE231.out) | exact HB.out)) hb)
      clear HO_3
      clear BK231
      clear HB
      have HO_3 := n0_
      have HO238 := n1_
      have BK231 := n2_
      have HB := n3_
      clear n0_ n1_ n2_ n3_
      (try clear hb)
      (try clear hb2)
      (try clear hk)
      (try clear hi)
      (try clear ho0)
      obtain ⟨Ao13, co13, eo13⟩ := Kd.R_slice HO238.out
      (first | subst eo13 | (injection eo13 with f1_ f2_ f3_; have f4_ := f1_.symm; have f5_ := f3_.symm; clear f1_ f2_ f3_; subst f4_; subst f5_))
      refine hK.out _ _ ⟨(blk_cell BK231.out 0).trans rfl, (blk_cell BK231.out 1).trans rfl, (blk_cell BK231.out 2).trans rfl, ((HB.out.cell (World.block_lt_of_cell? w _ hw235_0)).trans hw235_0), ((HB.out.cell (World.block_lt_of_cell? w _ hw235_1)).trans hw235_1), ((HB.out.cell (World.block_lt_of_cell? w _ hw235_2)).trans hw235_2), ((HB.out.cell (World.block_lt_of_cell? w _ hw235_3)).trans hw235_3), ((HB.out.cell (World.block_lt_of_cell? w _ hw235_4)).trans hw235_4), ((HB.out.cell (World.block_lt_of_cell? w _ hw235_5)).trans hw235_5), ((HB.out.cell (World.block_lt_of_cell? w _ hw235_6)).trans hw235_6)⟩ (fun hHeld => ?_)
      clear hK K
      refine norm_ (a' := ?_) ?_ ?_
      rotate_left
      ·show Act.put _ (some 22) _ = _
       simp only [Act.put, List.setIfInBounds_toArray, List.set_cons_zero, List.set_cons_succ, i64_w, i32_w]
       rfl
      refine one_ (i := 10) (N := some 23) #[true, true, true, true, true, true, true, true, true, true, true, false] rfl rfl (one_of HT_.out (by kernel_rfl)) (by decide) (fun K hK => ?_)
      refine Kd.R_append_rows_step k48 (w0 := w) w.heap.size (by rfl) (.tmp 13) (.tmp 22) 34 48 (.agg #[(.int .i64 0), (.int .i64 0), (.int .i64 0), (.int .i64 0), (.int .i64 0), (.int .i64 0)]) 48 rfl Try.underlying34 info48 rfl (by decide) (by omega) u3 x3_1 t236 _ _ _ (fun k_ => some k_ ≠ (.slice Ao13 t236.length co13 : Value).ownBlock) (fun _ => False) rfl rfl ?aO ?aR (fun _ _ h => h) (fun _ h => h.elim) ?aF ?aB ?aS ?aL ?_
      (case aR => repeat (first | exact (Kd.R_reads' HO238.out).2.2 | (with_reducible refine Kd.C_alloc ?_ _) | (with_reducible refine Kd.C_drewN ?_ _) | (with_reducible refine Kd.C_drew ?_)))
      (case aB => exact (by repeat (first | (with_reducible first | exact HB.out | apply below_alloc | apply pw_below_drewN | apply below_drew1 | refine below_set ?_ GE231.out) | exact HB.out)))
      (case aF => exact (fun k_ hk => Kd.fresh' (Kd.R_lt (by (with_reducible repeat (first | apply Kd.R_alloc | apply Kd.R_drewN | apply Kd.R_drew)); exact HO238.out)) k_ hk))
      (case aO => exact (by (with_reducible repeat (first | apply Kd.R_alloc | apply Kd.R_drewN | apply Kd.R_drew)); exact Kd.R_mono HO_3.out (fun _ hk => hk.2)))
      (case aS => exact (below_size (by repeat (first | (with_reducible first | exact HB.out | apply below_alloc | apply pw_below_drewN | apply below_drew1 | refine below_set ?_ GE231.out) | exact HB.out))))
      (case aL => have := LMc8.out; omega)
      intro v240 w12 ho hb hg hat
      rw [← Ny239.out] at ho
      have n0_ := Aside0.mk (blk_grown (g := gb231) (o := .cells #[.slice A0_0 l0_0.length c0_0, .slice (some ad235) l0_1.length c0_1, .int .i64 a0_2] 25 (0, 0)) (by (with_reducible repeat (first | refine blk_drewN ?_ _ | refine blk_drew ?_ | refine blk_alloc ?_ _)); exact BK231.out) hg (Kd.R_ne HO_3.out BK231.out (by decide)))
      have n1_ := Aside0.mk (Kd.R_after (ok := (fun _ => True)) (by (with_reducible repeat (first | apply Kd.R_alloc | apply Kd.R_drewN | apply Kd.R_drew)); exact HO238.out) hg hat)
      have n2_ := Aside0.mk (hb)
      have n3_ := Aside0.mk (ho)
      clear BK231
      clear HO238
      clear HB
      clear HO_3
      have BK231 := n0_
      have HO238 := n1_
      have HB := n2_
      have HO241 := n3_
      clear n0_ n1_ n2_ n3_
      clear ho hb hg hat
      refine hK.out _ _ ⟨(blk_cell BK231.out 0).trans rfl, (blk_cell BK231.out 1).trans rfl, (blk_cell BK231.out 2).trans rfl, ((HB.out.cell (World.block_lt_of_cell? w _ hw235_0)).trans hw235_0), ((HB.out.cell (World.block_lt_of_cell? w _ hw235_1)).trans hw235_1), ((HB.out.cell (World.block_lt_of_cell? w _ hw235_2)).trans hw235_2), ((HB.out.cell (World.block_lt_of_cell? w _ hw235_3)).trans hw235_3), ((HB.out.cell (World.block_lt_of_cell? w _ hw235_4)).trans hw235_4), ((HB.out.cell (World.block_lt_of_cell? w _ hw235_5)).trans hw235_5), ((HB.out.cell (World.block_lt_of_cell? w _ hw235_6)).trans hw235_6)⟩ (fun hHeld => ?_)
      clear hK K
      refine norm_ (a' := ?_) ?_ ?_
      rotate_left
      ·show Act.put _ (some 23) _ = _
       simp only [Act.put, List.setIfInBounds_toArray, List.set_cons_zero, List.set_cons_succ, i64_w, i32_w]
       rfl
      refine pure_ (i := 11) (N := some 3) (v := ?_) (a' := ?_) #[true, true, true, true, true, true, true, true, true, true, true, true] rfl rfl (any_of HT_.out (by kernel_rfl)) (fun _ _ _ h => h) (Or.inl ⟨by rfl, ?_⟩) ?_ ?_
      rotate_left
      ·intro w'
       go_simp
       with_reducible rfl
      rotate_left
      ·simp only [Act.put, List.setIfInBounds_toArray, List.set_cons_zero, List.set_cons_succ, i64_w, i32_w]
       rfl
      refine done_ (done_of HT_.out (by kernel_rfl)) ?_
      try go_wp2
      go_roundg k1
      case measure => have := HK1.out; omega
      case rel => exact ⟨(y239), (wrap64 (x4_1 + 1)), (by first | rfl | (simp; done) | (simp [*]; done)), H', ⟨by have := HK1.out; omega⟩, ⟨by (with_reducible repeat (first | apply Kd.R_alloc | apply Kd.R_drewN | apply Kd.R_drew)); exact Kd.R_mono HO241.out (fun _ hk => trivial)⟩, ⟨by (with_reducible repeat (first | refine blk_drewN ?_ _ | refine blk_drew ?_ | refine blk_alloc ?_ _)); exact BK231.out⟩, ⟨by repeat (first | (with_reducible first | exact HB.out | apply below_alloc | apply pw_below_drewN | apply below_drew1 | refine below_set ?_ GE231.out) | exact HB.out)⟩⟩
     ·rw [if_neg c8] at H
      exact absurd H (by simp)
    ·rw [if_neg c6] at H
     exact absurd H (by simp)
   ·rw [if_neg c5] at H
    have c5b0 : decide (x4_1 < (l0_1.length : Int)) = false := decide_eq_false c5
    clear c5
    obtain rfl := Option.some.inj H
    have hcz14_0 : wr.cell? ⟨gb231, 0, none⟩ = some (.slice A0_0 l0_0.length c0_0) := (blk_cell BK231.out 0).trans rfl
    have hcz14_1 : wr.cell? ⟨gb231, 1, none⟩ = some (.slice A0_1 l0_1.length c0_1) := (blk_cell BK231.out 1).trans rfl
    have hcz14_2 : wr.cell? ⟨gb231, 2, none⟩ = some (.int .i64 a0_2) := (blk_cell BK231.out 2).trans rfl
    have hfz14_0 := blk_frozen BK231.out 0
    have hfz14_1 := blk_frozen BK231.out 1
    have hfz14_2 := blk_frozen BK231.out 2
    go_wp2
    go_ret
    exact ⟨_, by first | rfl | (simp [errW_none, errW_some] <;> rfl) | (simp [*, errW_none, errW_some] <;> rfl), by (with_reducible repeat (first | apply Kd.R_alloc | apply Kd.R_drewN | apply Kd.R_drew)); exact HO_3.out, by repeat (first | (with_reducible first | exact HB.out | apply below_alloc | apply pw_below_drewN | apply below_drew1 | refine below_set ?_ GE231.out) | exact HB.out)⟩

end Go.Proofs.Ytdlagficilbbbaa.PConfigSpreads
