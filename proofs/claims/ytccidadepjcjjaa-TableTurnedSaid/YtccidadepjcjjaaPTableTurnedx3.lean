-- Written by gp.py (this project's driver over the kit's print) out of the translation and wip/given; Lean checks it.
import Derived.Test.YtccidadepjcjjaaPTableTurnedx0
import Derived.Test.YtccidadepjcjjaaPTableTurnedx2
namespace Go.Proofs.Ytccidadepjcjjaa.PTableTurned
open Go.RowKit Go.Proofs.YtccidadepjcjjaaR Go.Proofs.YtccidadepjcjjaaW.PrintWords Go.Proofs.YtccidadepjcjjaaW.PrintLast Go.Proofs.YtccidadepjcjjaaW.PrintMore
attribute [local go_sem] max2_int min2_int max_two min_two max_three min_three max_four min_four   -- for this text's walks alone
set_option linter.unusedVariables false
set_option linter.unusedSimpArgs false

/-! ### pacelineref07_Step: function 16 -/
def pacelineref07_Step.f (k : Nat) (l0 : List (S49)) (a1 : Int) (a2 : Int) : Option (Int × (List (S23))) := (pacelineref07_Find.f k l0 a1 a2).bind fun t112 => (if t112 < 0 then (some (a1, ([] : List (S23)))) else ((some (([] : List (S23)) : List (S23))).bind fun y113 => (if 0 ≤ t112 then (if t112 < (l0.length : Int) then (if y113.length + ((rd_T49 l0 t112).f3).length < 5864062014805 then (some ((rd_T49 l0 t112).f2, (y113 ++ ((rd_T49 l0 t112).f3)))) else (none)) else (none)) else (none))))
theorem pacelineref07_Step.mono : ∀ a0 a1 a2 k, LeO (pacelineref07_Step.f k a0 a1 a2) (pacelineref07_Step.f (k + 1) a0 a1 a2) := by
  intro a0 a1 a2 k
  unfold pacelineref07_Step.f
  repeat' first
      | (with_reducible exact pacelineref07_Find.mono _ _ _ _)
      | (with_reducible exact LeO.refl _)
      | (with_reducible exact LeO.none _)
      | (with_reducible refine LeO.ite ?_ ?_)
      | (with_reducible refine LeO.bind ?_ (fun _ => ?_))
      | exact pacelineref07_Find.mono _ _ _ _
      | exact LeO.none _
      | refine LeO.ite ?_ ?_
      | refine LeO.bind ?_ (fun _ => ?_)
def pacelineref07_Step.T5 : Bool × List (List Nat × List Nat) := (true, [([], []), ([], []), ([0, 1], [0, 1]), ([2], [2]), ([3], [3]), ([], []), ([], []), ([], []), ([6, 7], [6, 7]), ([8], [8]), ([9], [9]), ([5, 10], [5, 10]), ([4, 11, 0, 1, 2, 3, 4], [4]), ([11, 12, 0, 1, 2, 3, 4, 5, 6, 7, 8, 9, 10, 11, 12], [11])])
def pacelineref07_Step.B5 : List Nat := [0, 0, 3, 7, 15, 0, 0, 0, 192, 448, 960, 2016, 4095, 8191]
theorem pacelineref07_Step.tab5 : rtab .any (opsOf Try.f16 5) = pacelineref07_Step.T5 := by kernel_rfl
theorem pacelineref07_Step.bits5 : waitsOk pacelineref07_Step.T5.2 pacelineref07_Step.B5 = true := by kernel_rfl
set_option maxHeartbeats 8000000 in
set_option maxRecDepth 100000 in
theorem pacelineref07_Step.calls (k : Nat) (A0 : Option Addr) (c0 : Nat) (l0 : List (S49)) (a1 : Int) (a2 : Int) (r1 : Int) (r2 : List (S23)) (w : World) (hr0 : Kd.C k49 w A0 l0.length l0) (hc0 : l0.length ≤ c0) (h : pacelineref07_Step.f k l0 a1 a2 = some (r1, r2)) :
    Calls Try.prog 16 #[.slice A0 l0.length c0, .int .i64 a1, .int .i64 a2] w fun e w' => ∃ v1_ : Value, e = .returned (.tuple #[.int .i64 r1, v1_]) ∧ Kd.R k23 23 w' w.heap.size (fun _ => True) v1_ r2 ∧ Below w.heap.size w w' := by
  have HR0 := Aside0.mk hr0
  have HC0 := Aside0.mk hc0
  clear hr0 hc0
  have HB := Aside0.mk (Below.refl w.heap.size w)
  have H : ((pacelineref07_Find.f k l0 a1 a2).bind fun t112 => (if t112 < 0 then (some (a1, ([] : List (S23)))) else ((some (([] : List (S23)) : List (S23))).bind fun y113 => (if 0 ≤ t112 then (if t112 < (l0.length : Int) then (if y113.length + ((rd_T49 l0 t112).f3).length < 5864062014805 then (some ((rd_T49 l0 t112).f2, (y113 ++ ((rd_T49 l0 t112).f3)))) else (none)) else (none)) else (none))))) = some (r1, r2) := h
  clear h
  replace H := Option.bind_eq_some_iff.mp H
  obtain ⟨t112, A40, H⟩ := H
  replace H : (if t112 < 0 then (some (a1, ([] : List (S23)))) else ((some (([] : List (S23)) : List (S23))).bind fun y113 => (if 0 ≤ t112 then (if t112 < (l0.length : Int) then (if y113.length + ((rd_T49 l0 t112).f3).length < 5864062014805 then (some ((rd_T49 l0 t112).f2, (y113 ++ ((rd_T49 l0 t112).f3)))) else (none)) else (none)) else (none)))) = some (r1, r2) := H
  have A4 := Aside0.mk A40
  clear A40
  by_cases c5 : t112 < 0
  · rw [if_pos c5] at H
    have c5b0 : decide (t112 < 0) = true := decide_eq_true c5
    clear c5
    simp only [Option.some.injEq, Prod.mk.injEq] at H
    obtain ⟨rfl, rfl⟩ := H
    go_enter Try.func16, Try.ntmps16
    go_wp2_with (first | ((with_reducible refine gate_callee (f := 20) rfl ?_); refine goesL_ (some 13) rfl rfl Try.func20 (by kernel_rfl) rfl #[.slice A0 l0.length c0, .int .i64 a1, .int .i64 a2] rfl (by (try simp only [List.map_toArray, List.map_cons, List.map_nil]); first | done | rfl | (simp only [List.length_drop, List.length_take]; rfl)) ?_; (with_reducible refine (pacelineref07_Find.calls k _ _ l0 a1 a2 t112 _ ?side1 ?side2 A4.out).mono ?_); (case side1 => repeat (first | exact HR0.out | (with_reducible refine Kd.C_alloc ?_ _) | (with_reducible refine Kd.C_drewN ?_ _) | (with_reducible refine Kd.C_drew ?_))); (case side2 => exact HC0.out); rintro e w' ⟨rfl, ⟨nd, rfl⟩⟩; refine ⟨_, rfl, ?_⟩))
    go_ret2
    exact ⟨_, by first | rfl | (simp [errW_none, errW_some] <;> rfl) | (simp [*, errW_none, errW_some] <;> rfl), by first | exact Kd.R_nil _ _ _ _ _ | exact Kd.N_nil _ _ _ _ _ | exact Kd.V_nil _ _ _ _ _ | exact Kd.Q_nil _ _ _ _ _ | exact Kd.S_nil _ _ _ _ _, by repeat (first | (with_reducible first | exact HB.out | apply below_alloc | apply pw_below_drewN | apply below_drew1) | exact HB.out)⟩
  · rw [if_neg c5] at H
    have c5b0 : decide (t112 < 0) = false := decide_eq_false c5
    clear c5
    obtain ⟨y113, hy113⟩ : ∃ y_ : List (S23), y_ = (([] : List (S23))) := ⟨_, rfl⟩
    replace H : (if 0 ≤ t112 then (if t112 < (l0.length : Int) then (if y113.length + ((rd_T49 l0 t112).f3).length < 5864062014805 then (some ((rd_T49 l0 t112).f2, (y113 ++ ((rd_T49 l0 t112).f3)))) else (none)) else (none)) else (none)) = some (r1, r2) := by first | (rw [hy113]; with_reducible exact H) | (have H2_ := (Option.bind_some _ _).symm.trans H; rw [hy113]; with_reducible exact H2_) | (have H2_ := (Option.bind_some _ _).symm.trans H; with_reducible exact H2_) | with_reducible exact H | (rw [hy113]; exact H) | exact H
    have Ny113 := Aside0.mk hy113
    clear hy113
    by_cases c6 : 0 ≤ t112
    · rw [if_pos c6] at H
      have c6b0 : decide (0 ≤ t112) = true := decide_eq_true c6
      clear c6
      by_cases c7 : t112 < (l0.length : Int)
      · rw [if_pos c7] at H
        have c7b0 : decide (t112 < (l0.length : Int)) = true := decide_eq_true c7
        clear c7
        by_cases c8 : y113.length + ((rd_T49 l0 t112).f3).length < 5864062014805
        · rw [if_pos c8] at H
          have LMc8 := Aside0.mk c8
          clear c8
          obtain ⟨y118, hy118⟩ : ∃ y_ : List (S23), y_ = (y113 ++ ((rd_T49 l0 t112).f3)) := ⟨_, rfl⟩
          replace H : (some ((rd_T49 l0 t112).f2, y118)) = some (r1, r2) := by first | (rw [hy118]; with_reducible exact H) | (have H2_ := (Option.bind_some _ _).symm.trans H; rw [hy118]; with_reducible exact H2_) | (have H2_ := (Option.bind_some _ _).symm.trans H; with_reducible exact H2_) | with_reducible exact H | (rw [hy118]; exact H) | exact H
          have Ny118 := Aside0.mk hy118
          clear hy118
          simp only [Option.some.injEq, Prod.mk.injEq] at H
          obtain ⟨rfl, rfl⟩ := H
          go_enter Try.func16, Try.ntmps16
          try go_wp2_with (first | ((with_reducible refine gate_callee (f := 20) rfl ?_); refine goesL_ (some 13) rfl rfl Try.func20 (by kernel_rfl) rfl #[.slice A0 l0.length c0, .int .i64 a1, .int .i64 a2] rfl (by (try simp only [List.map_toArray, List.map_cons, List.map_nil]); first | done | rfl | (simp only [List.length_drop, List.length_take]; rfl)) ?_; (with_reducible refine (pacelineref07_Find.calls k _ _ l0 a1 a2 t112 _ ?side1 ?side2 A4.out).mono ?_); (case side1 => repeat (first | exact HR0.out | (with_reducible refine Kd.C_alloc ?_ _) | (with_reducible refine Kd.C_drewN ?_ _) | (with_reducible refine Kd.C_drew ?_))); (case side2 => exact HC0.out); rintro e w' ⟨rfl, ⟨nd, rfl⟩⟩; refine ⟨_, rfl, ?_⟩) | ((with_reducible refine gate_dst (N := 17) rfl ?_); refine Kd.R_lit k23 _ 23 ?hg (N := 17) ?hd (xs := ([] : List (S23))) (inner := []) (ok := fun _ => True) (okp := fun _ => True) ?hr ?hp (fun _ hk => hk) trivial (Below.refl _ _) (Nat.le_refl _) (by simp) ?_; (case hd => rfl); (case hg => rfl); (case hr => first | (go_simp; done) | (go_simp; rfl)); (case hp => exact (Reps.none _ _)); intro v114 w9 ho10 hb hg_ hnew_; clear hg_ hnew_; (first | rw [← Ny113.out] at ho10 | (simp only [Int.reduceToNat] at ho10; rw [← Ny113.out] at ho10)); have n0_ := Aside0.mk (Kd.R_lower ho10 (below_size (by repeat (first | (with_reducible first | exact HB.out | apply below_alloc | apply pw_below_drewN | apply below_drew1) | exact HB.out)))); have n1_ := Aside0.mk (below_step (by repeat (first | (with_reducible first | exact HB.out | apply below_alloc | apply pw_below_drewN | apply below_drew1) | exact HB.out)) hb); clear HB; have HO115 := n0_; have HB := n1_; clear n0_ n1_; clear hb ho10))
          have n0_ := Aside0.mk (Kd.R_drew HO115.out)
          have n1_ := Aside0.mk (below_drew1 HB.out)
          clear HO115
          clear HB
          have HO115 := n0_
          have HB := n1_
          clear n0_ n1_
          have p116 : 0 ≤ (t112 : Int) := of_decide_eq_true (by first | (with_reducible assumption) | assumption)
          have q116 : t112 < (l0.length : Int) := of_decide_eq_true (by first | (with_reducible assumption) | assumption)
          obtain ⟨ad116, A116_3, c116_3, e116, hx116_0, hx116_1, hx116_2, hx116_3, hl116_3, hi116_3⟩ := at_T49 HR0.out t112 p116 q116
          have hw116_3 := hx116_3
          have hw116_2 := hx116_2
          have hw116_1 := hx116_1
          have hw116_0 := hx116_0
          cases e116
          replace hx116_0 := (HB.out.cell (World.block_lt_of_cell? w _ hx116_0)).trans hx116_0
          replace hx116_1 := (HB.out.cell (World.block_lt_of_cell? w _ hx116_1)).trans hx116_1
          replace hx116_2 := (HB.out.cell (World.block_lt_of_cell? w _ hx116_2)).trans hx116_2
          replace hx116_3 := (HB.out.cell (World.block_lt_of_cell? w _ hx116_3)).trans hx116_3
          have HR116_3 := Aside0.mk hi116_3
          have HC116_3 := Aside0.mk hl116_3
          clear hi116_3 hl116_3
          replace p116 := eq_true p116
          replace q116 := eq_true q116
          have p117 : 0 ≤ (t112 : Int) := of_decide_eq_true (by first | (with_reducible assumption) | assumption)
          have q117 : t112 < (l0.length : Int) := of_decide_eq_true (by first | (with_reducible assumption) | assumption)
          obtain ⟨ad117, A117_3, c117_3, e117, hx117_0, hx117_1, hx117_2, hx117_3, hl117_3, hi117_3⟩ := at_T49 HR0.out t112 p117 q117
          have hw117_3 := hx117_3
          have hw117_2 := hx117_2
          have hw117_1 := hx117_1
          have hw117_0 := hx117_0
          obtain rfl : ad116 = ad117 := (by injection e117)
          replace hx117_0 := (HB.out.cell (World.block_lt_of_cell? w _ hx117_0)).trans hx117_0
          replace hx117_1 := (HB.out.cell (World.block_lt_of_cell? w _ hx117_1)).trans hx117_1
          replace hx117_2 := (HB.out.cell (World.block_lt_of_cell? w _ hx117_2)).trans hx117_2
          replace hx117_3 := (HB.out.cell (World.block_lt_of_cell? w _ hx117_3)).trans hx117_3
          have HR117_3 := Aside0.mk hi117_3
          have HC117_3 := Aside0.mk hl117_3
          clear hi117_3 hl117_3
          replace p117 := eq_true p117
          replace q117 := eq_true q117
          have ea_ := Option.some.inj (hx116_3.symm.trans hx117_3)
          injection ea_ with ea_ en_ ec_
          subst ea_
          subst ec_
          clear en_
          refine start_ (n := 14) (S := fun w' => w'.cell? (ad116.add ((t112).toNat * 4)) = some (.int .i64 ((rd_T49 l0 t112).f0)) ∧ w'.cell? ⟨(ad116.add ((t112).toNat * 4)).block, (ad116.add ((t112).toNat * 4)).off + 1, none⟩ = some (.int .i64 ((rd_T49 l0 t112).f1)) ∧ w'.cell? ⟨(ad116.add ((t112).toNat * 4)).block, (ad116.add ((t112).toNat * 4)).off + 2, none⟩ = some (.int .i64 ((rd_T49 l0 t112).f2)) ∧ w'.cell? ⟨(ad116.add ((t112).toNat * 4)).block, (ad116.add ((t112).toNat * 4)).off + 3, none⟩ = some (.slice A116_3 ((rd_T49 l0 t112).f3).length c116_3) ∧ w'.cell? (ad116.add ((t112).toNat * 4)) = some (.int .i64 ((rd_T49 l0 t112).f0)) ∧ w'.cell? ⟨(ad116.add ((t112).toNat * 4)).block, (ad116.add ((t112).toNat * 4)).off + 1, none⟩ = some (.int .i64 ((rd_T49 l0 t112).f1)) ∧ w'.cell? ⟨(ad116.add ((t112).toNat * 4)).block, (ad116.add ((t112).toNat * 4)).off + 2, none⟩ = some (.int .i64 ((rd_T49 l0 t112).f2)) ∧ w'.cell? ⟨(ad116.add ((t112).toNat * 4)).block, (ad116.add ((t112).toNat * 4)).off + 3, none⟩ = some (.slice A116_3 ((rd_T49 l0 t112).f3).length c116_3)) (ds := []) #[false, false, false, false, false, false, false, false, false, false, false, false, false, false] (by kernel_rfl) rfl rfl ⟨((HB.out.cell (World.block_lt_of_cell? w _ hw116_0)).trans hw116_0), ((HB.out.cell (World.block_lt_of_cell? w _ hw116_1)).trans hw116_1), ((HB.out.cell (World.block_lt_of_cell? w _ hw116_2)).trans hw116_2), ((HB.out.cell (World.block_lt_of_cell? w _ hw116_3)).trans hw116_3), ((HB.out.cell (World.block_lt_of_cell? w _ hw117_0)).trans hw117_0), ((HB.out.cell (World.block_lt_of_cell? w _ hw117_1)).trans hw117_1), ((HB.out.cell (World.block_lt_of_cell? w _ hw117_2)).trans hw117_2), ((HB.out.cell (World.block_lt_of_cell? w _ hw117_3)).trans hw117_3)⟩ (fun hHeld => ?_); refine with_tabW pacelineref07_Step.tab5 pacelineref07_Step.bits5 (fun HT_ HW_ => ?_)
          generalize w9.drew = w11 at HO115 HB HR116_3 HR117_3 hx116_0 hx116_1 hx116_2 hx116_3 hx117_0 hx117_1 hx117_2 hx117_3 hHeld ⊢
          refine pure_ (i := 0) (N := some 18) (v := ?_) (a' := ?_) #[true, false, false, false, false, false, false, false, false, false, false, false, false, false] rfl rfl (any_of HT_.out (by kernel_rfl)) (fun _ _ _ h => h) (Or.inl ⟨by rfl, ?_⟩) ?_ ?_
          rotate_left
          · intro w'
            go_simp
            with_reducible rfl
          rotate_left
          · simp only [Act.put, List.setIfInBounds_toArray, List.set_cons_zero, List.set_cons_succ, i64_w, i32_w]
            rfl
          refine pure_ (i := 1) (N := some 19) (v := ?_) (a' := ?_) #[true, true, false, false, false, false, false, false, false, false, false, false, false, false] rfl rfl (any_of HT_.out (by kernel_rfl)) (fun _ _ _ h => h) (Or.inl ⟨by rfl, ?_⟩) ?_ ?_
          rotate_left
          · intro w'
            go_simp
            with_reducible rfl
          rotate_left
          · simp only [Act.put, List.setIfInBounds_toArray, List.set_cons_zero, List.set_cons_succ, i64_w, i32_w]
            rfl
          refine pure_ (i := 2) (N := some 20) (v := ?_) (a' := ?_) #[true, true, true, false, false, false, false, false, false, false, false, false, false, false] rfl rfl (any_of HT_.out (by kernel_rfl)) (fun _ _ _ h => h) (Or.inl ⟨by rfl, ?_⟩) ?_ ?_
          rotate_left
          · intro w'
            go_simp
            with_reducible rfl
          rotate_left
          · simp only [Act.put, List.setIfInBounds_toArray, List.set_cons_zero, List.set_cons_succ, i64_w, i32_w]
            rfl
          refine pure_ (i := 3) (N := some 21) (v := ?_) (a' := ?_) #[true, true, true, true, false, false, false, false, false, false, false, false, false, false] rfl rfl (any_of HT_.out (by kernel_rfl)) (fun _ _ _ h => h) (Or.inl ⟨by rfl, ?_⟩) ?_ ?_
          rotate_left
          · intro w'
            go_simp
            with_reducible rfl
          rotate_left
          · simp only [Act.put, List.setIfInBounds_toArray, List.set_cons_zero, List.set_cons_succ, i64_w, i32_w]
            rfl
          refine pure_ (i := 5) (N := some 23) (v := ?_) (a' := ?_) #[true, true, true, true, false, true, false, false, false, false, false, false, false, false] rfl rfl (any_of HT_.out (by kernel_rfl)) (fun _ _ _ h => h) (Or.inl ⟨by rfl, ?_⟩) ?_ ?_
          rotate_left
          · intro w'
            go_simp
            with_reducible rfl
          rotate_left
          · simp only [Act.put, List.setIfInBounds_toArray, List.set_cons_zero, List.set_cons_succ, i64_w, i32_w]
            rfl
          refine pure_ (i := 6) (N := some 24) (v := ?_) (a' := ?_) #[true, true, true, true, false, true, true, false, false, false, false, false, false, false] rfl rfl (any_of HT_.out (by kernel_rfl)) (fun _ _ _ h => h) (Or.inl ⟨by rfl, ?_⟩) ?_ ?_
          rotate_left
          · intro w'
            go_simp
            with_reducible rfl
          rotate_left
          · simp only [Act.put, List.setIfInBounds_toArray, List.set_cons_zero, List.set_cons_succ, i64_w, i32_w]
            rfl
          refine pure_ (i := 7) (N := some 25) (v := ?_) (a' := ?_) #[true, true, true, true, false, true, true, true, false, false, false, false, false, false] rfl rfl (any_of HT_.out (by kernel_rfl)) (fun _ _ _ h => h) (Or.inl ⟨by rfl, ?_⟩) ?_ ?_
          rotate_left
          · intro w'
            go_simp
            with_reducible rfl
          rotate_left
          · simp only [Act.put, List.setIfInBounds_toArray, List.set_cons_zero, List.set_cons_succ, i64_w, i32_w]
            rfl
          refine pure_ (i := 8) (N := some 26) (v := ?_) (a' := ?_) #[true, true, true, true, false, true, true, true, true, false, false, false, false, false] rfl rfl (any_of HT_.out (by kernel_rfl)) (fun _ _ _ h => h) (Or.inl ⟨by rfl, ?_⟩) ?_ ?_
          rotate_left
          · intro w'
            go_simp
            with_reducible rfl
          rotate_left
          · simp only [Act.put, List.setIfInBounds_toArray, List.set_cons_zero, List.set_cons_succ, i64_w, i32_w]
            rfl
          refine pure_ (i := 9) (N := some 27) (v := ?_) (a' := ?_) #[true, true, true, true, false, true, true, true, true, true, false, false, false, false] rfl rfl (any_of HT_.out (by kernel_rfl)) (fun _ _ _ h => h) (Or.inl ⟨by rfl, ?_⟩) ?_ ?_
          rotate_left
          · intro w'
            go_simp
            with_reducible rfl
          rotate_left
          · simp only [Act.put, List.setIfInBounds_toArray, List.set_cons_zero, List.set_cons_succ, i64_w, i32_w]
            rfl
          refine take_ (i := 4) (N := some 22) (v := ?_) (a' := ?_) #[true, true, true, true, true, true, true, true, true, true, false, false, false, false] rfl rfl (take_ofW HT_.out HW_.out (by kernel_rfl)) (fun _ _ _ h => h) (Or.inl ⟨by rfl, ?_⟩) hHeld ?_ ?_
          rotate_left
          · rintro w' ⟨s0, s1, s2, s3, s4, s5, s6, s7⟩
            go_simp
            with_reducible rfl
          rotate_left
          · simp only [Act.put, List.setIfInBounds_toArray, List.set_cons_zero, List.set_cons_succ, i64_w, i32_w]
            rfl
          refine take_ (i := 10) (N := some 28) (v := ?_) (a' := ?_) #[true, true, true, true, true, true, true, true, true, true, true, false, false, false] rfl rfl (take_ofW HT_.out HW_.out (by kernel_rfl)) (fun _ _ _ h => h) (Or.inl ⟨by rfl, ?_⟩) hHeld ?_ ?_
          rotate_left
          · rintro w' ⟨s0, s1, s2, s3, s4, s5, s6, s7⟩
            go_simp
            with_reducible rfl
          rotate_left
          · simp only [Act.put, List.setIfInBounds_toArray, List.set_cons_zero, List.set_cons_succ, i64_w, i32_w]
            rfl
          refine one_ (i := 11) (N := some 29) #[true, true, true, true, true, true, true, true, true, true, true, true, false, false] rfl rfl (one_of HT_.out (by kernel_rfl)) (by decide) (fun K hK => ?_)
          refine Kd.R_append_rows_step k23 (w0 := w) w.heap.size (by rfl) (.tmp 23) (.tmp 28) 37 23 (.agg #[(.int .i64 0), (.int .i64 0), (.int .i64 0)]) 24 rfl Try.underlying37 info23 rfl (by decide) (by omega) v114 y113 ((rd_T49 l0 t112).f3) _ _ _ (fun _ => True) (fun _ => False) rfl rfl ?aO ?aR (fun _ _ h => h) (fun _ h => h.elim) ?aF ?aB ?aS ?aL ?_
          (case aR => repeat (first | exact (Kd.C_below HR117_3.out HB.out) | (with_reducible refine Kd.C_alloc ?_ _) | (with_reducible refine Kd.C_drewN ?_ _) | (with_reducible refine Kd.C_drew ?_)))
          (case aB => exact (by repeat (first | (with_reducible first | exact HB.out | apply below_alloc | apply pw_below_drewN | apply below_drew1) | exact HB.out)))
          (case aF => exact (fun _ _ => trivial))
          (case aO => exact (by (with_reducible repeat (first | apply Kd.R_alloc | apply Kd.R_drewN | apply Kd.R_drew)); exact HO115.out))
          (case aS => exact (below_size (by repeat (first | (with_reducible first | exact HB.out | apply below_alloc | apply pw_below_drewN | apply below_drew1) | exact HB.out))))
          (case aL => have := LMc8.out; omega)
          intro v119 w12 ho hb hg hat
          rw [← Ny118.out] at ho
          have n0_ := Aside0.mk (hb)
          have n1_ := Aside0.mk (ho)
          clear HB
          clear HO115
          have HB := n0_
          have HO120 := n1_
          clear n0_ n1_
          clear ho hb hg hat
          refine hK.out _ _ ⟨((HB.out.cell (World.block_lt_of_cell? w _ hw116_0)).trans hw116_0), ((HB.out.cell (World.block_lt_of_cell? w _ hw116_1)).trans hw116_1), ((HB.out.cell (World.block_lt_of_cell? w _ hw116_2)).trans hw116_2), ((HB.out.cell (World.block_lt_of_cell? w _ hw116_3)).trans hw116_3), ((HB.out.cell (World.block_lt_of_cell? w _ hw117_0)).trans hw117_0), ((HB.out.cell (World.block_lt_of_cell? w _ hw117_1)).trans hw117_1), ((HB.out.cell (World.block_lt_of_cell? w _ hw117_2)).trans hw117_2), ((HB.out.cell (World.block_lt_of_cell? w _ hw117_3)).trans hw117_3)⟩ (fun hHeld => ?_)
          clear hK K
          refine norm_ (a' := ?_) ?_ ?_
          rotate_left
          · show Act.put _ (some 29) _ = _
            simp only [Act.put, List.setIfInBounds_toArray, List.set_cons_zero, List.set_cons_succ, i64_w, i32_w]
            rfl
          refine pure_ (i := 12) (N := some 6) (v := ?_) (a' := ?_) #[true, true, true, true, true, true, true, true, true, true, true, true, true, false] rfl rfl (any_of HT_.out (by kernel_rfl)) (fun _ _ _ h => h) (Or.inl ⟨by rfl, ?_⟩) ?_ ?_
          rotate_left
          · intro w'
            go_simp
            with_reducible rfl
          rotate_left
          · simp only [Act.put, List.setIfInBounds_toArray, List.set_cons_zero, List.set_cons_succ, i64_w, i32_w]
            rfl
          refine pure_ (i := 13) (N := some 7) (v := ?_) (a' := ?_) #[true, true, true, true, true, true, true, true, true, true, true, true, true, true] rfl rfl (any_of HT_.out (by kernel_rfl)) (fun _ _ _ h => h) (Or.inl ⟨by rfl, ?_⟩) ?_ ?_
          rotate_left
          · intro w'
            go_simp
            with_reducible rfl
          rotate_left
          · simp only [Act.put, List.setIfInBounds_toArray, List.set_cons_zero, List.set_cons_succ, i64_w, i32_w]
            rfl
          refine done_ (done_of HT_.out (by kernel_rfl)) ?_
          try go_wp2
          go_ret2
          exact ⟨_, by first | rfl | (simp [errW_none, errW_some] <;> rfl) | (simp [*, errW_none, errW_some] <;> rfl), by (with_reducible repeat (first | apply Kd.R_alloc | apply Kd.R_drewN | apply Kd.R_drew)); exact HO120.out, by repeat (first | (with_reducible first | exact HB.out | apply below_alloc | apply pw_below_drewN | apply below_drew1) | exact HB.out)⟩
        · rw [if_neg c8] at H
          exact absurd H (by simp)
      · rw [if_neg c7] at H
        exact absurd H (by simp)
    · rw [if_neg c6] at H
      exact absurd H (by simp)

/-! ### table_Check: function 17 (by hand) -/
def table_Check.bel (n m : Int) : Bool := decide (0 ≤ n ∧ n < m)
def table_Check.wfo (o : S23) : Bool := (Lit.int .i64 o.f0).wf && (Lit.int .i64 o.f1).wf && (Lit.int .i64 o.f2).wf
def table_Check.wfr (r : S49) : Bool := (Lit.int .i64 r.f0).wf && (Lit.int .i64 r.f1).wf && (Lit.int .i64 r.f2).wf && r.f3.all table_Check.wfo
def table_Check.odd (o : S23) : Bool := !(table_Check.bel o.f0 16) || !(table_Check.bel o.f1 1048577) || !(table_Check.bel o.f2 1000)
def table_Check.met (l : List S49) (s c : Int) : Bool := l.any (fun r => r.f0 == s && r.f1 == c)
def table_Check.bad (l : List S49) (r : S49) : Bool := table_Check.met l r.f0 r.f1 || !(table_Check.bel r.f0 8) || !(table_Check.bel r.f2 8) || !(table_Check.bel r.f1 16) || decide (3 < r.f3.length) || r.f3.any table_Check.odd
def table_Check.scan : List S49 → List S49 → Int
  | _, [] => 0
  | l, r :: t => if table_Check.bad l r then 70 else table_Check.scan (l ++ [r]) t
def table_Check.f (l0 : List S49) : Option Int := if l0.all table_Check.wfr then some (if 32 < l0.length then 70 else table_Check.scan [] l0) else none
section
open Go.Proofs.YtccidadepjcjjaaI Go.Proofs.YtccidadepjcjjaaM
theorem table_Check.wrap_lt (n m : Int) (hn : (Lit.int .i64 n).wf = true) (hm : 0 ≤ m ∧ m < 9223372036854775808) : decide (IntKind.u64.wrap n < m) = table_Check.bel n m := by
  obtain ⟨h1, h2⟩ := wf_i64 hn
  unfold table_Check.bel
  rw [decide_eq_decide]
  by_cases h : 0 ≤ n
  · have : IntKind.u64.wrap n = n := by simp only [IntKind.wrap, IntKind.bits, IntKind.signed, Bool.false_and, Bool.false_eq_true, if_false]; omega
    omega
  · have : IntKind.u64.wrap n = n + 18446744073709551616 := by simp only [IntKind.wrap, IntKind.bits, IntKind.signed, Bool.false_and, Bool.false_eq_true, if_false]; omega
    omega
set_option maxHeartbeats 1000000 in
theorem table_Check.below (n m : Int) (hn : (Lit.int .i64 n).wf = true) (hm : 0 ≤ m ∧ m < 9223372036854775808) (w : World) : Calls Try.prog 26 #[.int .i64 n, .int .i64 m] w fun e w' => e = .returned (.bool (table_Check.bel n m)) ∧ w' = w := by
  have HX := Aside0.mk (table_Check.wrap_lt n m hn hm)
  go_enter Try.func26, Try.ntmps26
  go_wp2
  go_ret
  refine ⟨?_, rfl⟩
  rw [← HX.out]
  rfl
theorem table_Check.wfo3 {o : S23} (h : table_Check.wfo o = true) : (Lit.int .i64 o.f0).wf = true ∧ (Lit.int .i64 o.f1).wf = true ∧ (Lit.int .i64 o.f2).wf = true := by
  unfold table_Check.wfo at h
  simp only [Bool.and_eq_true] at h
  exact ⟨h.1.1, h.1.2, h.2⟩
theorem table_Check.wfr4 {o : S49} (h : table_Check.wfr o = true) : (Lit.int .i64 o.f0).wf = true ∧ (Lit.int .i64 o.f1).wf = true ∧ (Lit.int .i64 o.f2).wf = true ∧ o.f3.all table_Check.wfo = true := by
  unfold table_Check.wfr at h
  simp only [Bool.and_eq_true] at h
  exact ⟨h.1.1.1, h.1.1.2, h.1.2, h.2⟩
set_option maxRecDepth 100000 in
set_option maxHeartbeats 1000000 in
theorem table_Check.pred (l : List S23) (hwf : l.all table_Check.wfo = true) (w : World) : Pred Try.prog 25 #[] k23 table_Check.odd l w := by
  intro W x cs hb hx hK
  obtain rfl := k23_open hK
  obtain ⟨w0, w1, w2⟩ := table_Check.wfo3 (List.all_eq_true.mp hwf x hx)
  clear hb hK
  have C0 := Aside0.mk (fun W => table_Check.below x.f0 16 w0 (by omega) W)
  have C1 := Aside0.mk (fun W => table_Check.below x.f1 1048577 w1 (by omega) W)
  have C2 := Aside0.mk (fun W => table_Check.below x.f2 1000 w2 (by omega) W)
  have HO : Aside0 (table_Check.odd x = (!(table_Check.bel x.f0 16) || !(table_Check.bel x.f1 1048577) || !(table_Check.bel x.f2 1000))) := ⟨rfl⟩
  clear w0 w1 w2 hx hwf
  have HB := Aside0.mk ((Below.refl _ W).alloc (Nat.le_refl _) (.cells #[.int .i64 x.f0, .int .i64 x.f1, .int .i64 x.f2] 23))
  have hu := Try.underlying23
  cases h0 : table_Check.bel x.f0 16 <;> cases h1 : table_Check.bel x.f1 1048577 <;> cases h2 : table_Check.bel x.f2 1000
  all_goals
    rw [h0, h1, h2] at HO
    rw [h0] at C0
    rw [h1] at C1
    rw [h2] at C2
    clear h0 h1 h2
    go_enter Try.func25, Try.ntmps25
    go_wp2_with (go_at_call 26; first | (with_reducible refine (C0.out _).mono ?_; rintro e w' ⟨rfl, rfl⟩) | (with_reducible refine (C1.out _).mono ?_; rintro e w' ⟨rfl, rfl⟩) | (with_reducible refine (C2.out _).mono ?_; rintro e w' ⟨rfl, rfl⟩))
    go_ret
    exact ⟨by rw [HO.out]; rfl, HB.out⟩
theorem table_Check.drop_at {α : Type} {l : List α} {k : Nat} {x : α} (hx : l[k]? = some x) : l.drop k = x :: l.drop (k + 1) ∧ l.take (k + 1) = l.take k ++ [x] := by
  obtain ⟨hk, rfl⟩ := List.getElem?_eq_some_iff.1 hx
  exact ⟨List.drop_eq_getElem_cons hk, List.take_succ_eq_append_getElem hk⟩
theorem table_Check.more {l : List S49} {k : Nat} {x : S49} (e : table_Check.scan [] l = table_Check.scan (l.take k) (l.drop k)) (hx : l[k]? = some x) (hb : table_Check.bad (l.take k) x = false) : table_Check.scan [] l = table_Check.scan (l.take (k + 1)) (l.drop (k + 1)) := by
  obtain ⟨h1, h2⟩ := table_Check.drop_at hx
  rw [e, h1, h2, table_Check.scan, hb]
  rfl
theorem table_Check.stop {l : List S49} {k : Nat} {x : S49} (e : table_Check.scan [] l = table_Check.scan (l.take k) (l.drop k)) (hx : l[k]? = some x) (hb : table_Check.bad (l.take k) x = true) : table_Check.scan [] l = 70 := by
  obtain ⟨h1, h2⟩ := table_Check.drop_at hx
  rw [e, h1, table_Check.scan, hb]
  rfl
theorem table_Check.met_more {l : List S49} {k : Nat} {x : S49} (hx : l[k]? = some x) : (fun s' c' => (x.f0 == s' && x.f1 == c') || table_Check.met (l.take k) s' c') = table_Check.met (l.take (k + 1)) := by
  obtain ⟨h1, h2⟩ := table_Check.drop_at hx
  funext s c
  unfold table_Check.met
  rw [h2, List.any_append]
  simp [Bool.or_comm]
set_option maxRecDepth 100000 in
set_option maxHeartbeats 4000000 in
theorem table_Check.calls (A0 : Option Addr) (c0 : Nat) (l0 : List S49) (r : Int) (w : World) (hr0 : Kd.C k49 w A0 l0.length l0) (hc0 : l0.length ≤ c0) (h : table_Check.f l0 = some r) :
    Calls Try.prog 17 #[.slice A0 l0.length c0] w fun e w' => e = .returned (.int .i64 r) ∧ Below w.heap.size w w' := by
  unfold table_Check.f at h
  split at h
  · rename_i hwf
    obtain rfl := Option.some.inj h
    clear h
    have hmf : ∀ (fn : Fn) (first cap : Array Value) (w : World), (Instr.makeFunc fn first cap).run Try.prog w = .ok (.func fn first cap) w := fun _ _ _ _ => rfl
    have hmm := @run_makeMap Try.prog
    have HR := Aside0.mk hr0
    have HW := Aside0.mk hwf
    clear hr0 hwf
    by_cases hlen : 32 < l0.length
    · rw [if_pos hlen]
      have hl : (32 : Int) < (l0.length : Int) := by omega
      clear hlen
      go_enter Try.func17, Try.ntmps17
      go_wp2
      go_ret
      exact ⟨rfl, Below.refl _ w⟩
    · rw [if_neg hlen]
      have hl : ¬ (32 : Int) < (l0.length : Int) := by omega
      have HL := Aside0.mk hlen
      clear hlen
      have HM := Aside0.mk (set_made w)
      go_enter Try.func17, Try.ntmps17
      go_wp2
      go_loopg [14] l0.length (fun gg s14 wr => ∃ kk : Nat, kk ≤ l0.length ∧ l0.length - kk ≤ gg ∧ s14 = .int .i64 kk ∧ Aside0 (Below w.heap.size w wr) ∧ Aside0 (SetIs wr w.heap.size kk (table_Check.met (l0.take kk))) ∧ Aside0 (table_Check.scan [] l0 = table_Check.scan (l0.take kk) (l0.drop kk)))
      case atStart =>
        refine ⟨0, Nat.zero_le _, by omega, rfl, ⟨(Below.refl _ w).alloc (Nat.le_refl _) _⟩, ⟨HM.out⟩, ⟨rfl⟩⟩
      case round =>
        obtain ⟨kk, hkk, hg, rfl, BW, SW, EQ⟩ := hrel
        by_cases hlt : kk < l0.length
        · have hltz : (kk : Int) < (l0.length : Int) := by omega
          obtain ⟨x, hx⟩ : ∃ x, l0[kk]? = some x := ⟨_, List.getElem?_eq_getElem hlt⟩
          obtain ⟨ad, cs, rfl, hcl, hK, hcell⟩ := cells_at (Kd.C_below HR.out BW.out) hx
          obtain ⟨A3, c3, rfl, l3, g3⟩ := k49_open hK
          have q0 : wr.cell? (ad.add (kk * 4)) = some (.int .i64 x.f0) := by exact hcell 0 _ rfl
          have q1 : wr.cell? ⟨(ad.add (kk * 4)).block, (ad.add (kk * 4)).off + 1, none⟩ = some (.int .i64 x.f1) := by have := hcell 1 _ rfl; rwa [add_field _ _ 1 (by omega)] at this
          have q2 : wr.cell? ⟨(ad.add (kk * 4)).block, (ad.add (kk * 4)).off + 2, none⟩ = some (.int .i64 x.f2) := by have := hcell 2 _ rfl; rwa [add_field _ _ 2 (by omega)] at this
          have q3 : wr.cell? ⟨(ad.add (kk * 4)).block, (ad.add (kk * 4)).off + 3, none⟩ = some (.slice A3 x.f3.length c3) := by have := hcell 3 _ rfl; rwa [add_field _ _ 3 (by omega)] at this
          clear hcell hK hcl
          obtain ⟨w0, w1, w2, w3⟩ := table_Check.wfr4 (List.all_eq_true.mp HW.out x (List.mem_of_getElem? hx))
          have W0 := Aside0.mk w0
          have W1 := Aside0.mk w1
          have W3 := Aside0.mk w3
          have G3 := Aside0.mk g3
          have HX := Aside0.mk hx
          have C0 := Aside0.mk (fun W => table_Check.below x.f0 8 w0 (by omega) W)
          have C1 := Aside0.mk (fun W => table_Check.below x.f2 8 w2 (by omega) W)
          have C2 := Aside0.mk (fun W => table_Check.below x.f1 16 w1 (by omega) W)
          have C3 := Aside0.mk (fun (W : World) (hW : Below wr.heap.size wr W) => contains_out k23 rfl table_Check.odd 25 #[] (enters_of Try.func25 (by kernel_rfl) rfl) A3 c3 x.f3 W (Kd.C_below g3 hW) (table_Check.pred x.f3 w3 W))
          clear w0 w1 w2 w3 g3 hx
          have hc : (table_Check.met (l0.take kk) x.f0 x.f1 = true ∧ table_Check.bad (l0.take kk) x = true)
            ∨ (table_Check.met (l0.take kk) x.f0 x.f1 = false ∧ table_Check.bel x.f0 8 = false ∧ table_Check.bad (l0.take kk) x = true)
            ∨ (table_Check.met (l0.take kk) x.f0 x.f1 = false ∧ table_Check.bel x.f0 8 = true ∧ table_Check.bel x.f2 8 = false ∧ table_Check.bad (l0.take kk) x = true)
            ∨ (table_Check.met (l0.take kk) x.f0 x.f1 = false ∧ table_Check.bel x.f0 8 = true ∧ table_Check.bel x.f2 8 = true ∧ table_Check.bel x.f1 16 = false ∧ table_Check.bad (l0.take kk) x = true)
            ∨ (table_Check.met (l0.take kk) x.f0 x.f1 = false ∧ table_Check.bel x.f0 8 = true ∧ table_Check.bel x.f2 8 = true ∧ table_Check.bel x.f1 16 = true ∧ (3 : Int) < (x.f3.length : Int) ∧ table_Check.bad (l0.take kk) x = true)
            ∨ (table_Check.met (l0.take kk) x.f0 x.f1 = false ∧ table_Check.bel x.f0 8 = true ∧ table_Check.bel x.f2 8 = true ∧ table_Check.bel x.f1 16 = true ∧ ¬ (3 : Int) < (x.f3.length : Int) ∧ x.f3.any table_Check.odd = true ∧ table_Check.bad (l0.take kk) x = true)
            ∨ (table_Check.met (l0.take kk) x.f0 x.f1 = false ∧ table_Check.bel x.f0 8 = true ∧ table_Check.bel x.f2 8 = true ∧ table_Check.bel x.f1 16 = true ∧ ¬ (3 : Int) < (x.f3.length : Int) ∧ x.f3.any table_Check.odd = false ∧ table_Check.bad (l0.take kk) x = false) := by
            unfold table_Check.bad
            cases table_Check.met (l0.take kk) x.f0 x.f1 <;> cases table_Check.bel x.f0 8 <;> cases table_Check.bel x.f2 8 <;> cases table_Check.bel x.f1 16 <;> cases x.f3.any table_Check.odd <;> by_cases h3 : 3 < x.f3.length <;> simp [h3] <;> omega
          rcases hc with ⟨h1, hb⟩ | ⟨h1, h2, hb⟩ | ⟨h1, h2, h3, hb⟩ | ⟨h1, h2, h3, h4, hb⟩ | ⟨h1, h2, h3, h4, h5, hb⟩ | ⟨h1, h2, h3, h4, h5, h6, hb⟩ | ⟨h1, h2, h3, h4, h5, h6, hb⟩
          all_goals
            have HB := Aside0.mk hb
            clear hb
          case inr.inr.inr.inr.inr.inr =>
            have HE : Aside0 (table_Check.scan [] l0 = table_Check.scan (l0.take (kk + 1)) (l0.drop (kk + 1))) := ⟨table_Check.more EQ.out HX.out HB.out⟩
            have HQ : Aside0 ((fun s' c' => (x.f0 == s' && x.f1 == c') || table_Check.met (l0.take kk) s' c') = table_Check.met (l0.take (kk + 1))) := ⟨table_Check.met_more HX.out⟩
            have HK : Aside0 (kk < maxLen) := ⟨by have := HL.out; unfold maxLen; omega⟩
            go_wp2_with (first
              | (at_lookup; refine wpList_look _ rfl _ _ rfl _ _ _ _ _ rfl rfl ((SW.out.alloc _).alloc _) W0.out W1.out ?_)
              | (at_mapUpdate; refine wpList_store _ rfl _ _ _ rfl _ _ _ _ _ rfl rfl rfl (((SW.out.alloc _).alloc _).below HB'.out) HK.out W0.out W1.out ?_; intro w'' hS hG)
              | (go_at_call 26; first | (with_reducible refine (C0.out _).mono ?_; rintro e w' ⟨rfl, rfl⟩) | (with_reducible refine (C1.out _).mono ?_; rintro e w' ⟨rfl, rfl⟩) | (with_reducible refine (C2.out _).mono ?_; rintro e w' ⟨rfl, rfl⟩))
              | (go_at_call 27; refine (C3.out _ (((Below.refl _ wr).alloc (Nat.le_refl _) _).alloc (by simp) _)).mono ?_; rintro e w' ⟨rfl, hb'⟩; have b0 := pw_cell_below hb' (show World.cell? _ ⟨wr.heap.size + 1, 0, none⟩ = some (.int .i64 x.f0) by simp); have b1 := pw_cell_below hb' (show World.cell? _ ⟨wr.heap.size + 1, 1, none⟩ = some (.int .i64 x.f1) by simp); have HB' := Aside0.mk hb'; clear hb'))
            have HS := Aside0.mk hS
            have HG := Aside0.mk hG
            clear hS hG
            go_roundg (l0.length - (kk + 1))
            case measure => omega
            case rel =>
              refine ⟨kk + 1, by omega, by omega, by go_num, ⟨below_grown (below_step ((BW.out.alloc BW.out.size _).alloc (by have := BW.out.size; simp; omega) _) HB'.out) HG.out (Nat.le_refl _)⟩, ⟨HQ.out ▸ HS.out⟩, HE⟩
          case inr.inr.inr.inr.inr.inl =>
            have HR : Aside0 (table_Check.scan [] l0 = 70) := ⟨table_Check.stop EQ.out HX.out HB.out⟩
            go_wp2_with (first
              | (at_lookup; refine wpList_look _ rfl _ _ rfl _ _ _ _ _ rfl rfl ((SW.out.alloc _).alloc _) W0.out W1.out ?_)
              | (go_at_call 26; first | (with_reducible refine (C0.out _).mono ?_; rintro e w' ⟨rfl, rfl⟩) | (with_reducible refine (C1.out _).mono ?_; rintro e w' ⟨rfl, rfl⟩) | (with_reducible refine (C2.out _).mono ?_; rintro e w' ⟨rfl, rfl⟩))
              | (go_at_call 27; refine (C3.out _ (((Below.refl _ wr).alloc (Nat.le_refl _) _).alloc (by simp) _)).mono ?_; rintro e w' ⟨rfl, hb'⟩; have HB' := Aside0.mk hb'; clear hb'))
            go_ret
            exact ⟨by rw [HR.out]; rfl, below_step ((BW.out.alloc BW.out.size _).alloc (by have := BW.out.size; simp; omega) _) HB'.out⟩
          all_goals
            have HR : Aside0 (table_Check.scan [] l0 = 70) := ⟨table_Check.stop EQ.out HX.out HB.out⟩
            go_wp2_with (first
              | (at_lookup; refine wpList_look _ rfl _ _ rfl _ _ _ _ _ rfl rfl ((SW.out.alloc _).alloc _) W0.out W1.out ?_)
              | (go_at_call 26; first | (with_reducible refine (C0.out _).mono ?_; rintro e w' ⟨rfl, rfl⟩) | (with_reducible refine (C1.out _).mono ?_; rintro e w' ⟨rfl, rfl⟩) | (with_reducible refine (C2.out _).mono ?_; rintro e w' ⟨rfl, rfl⟩)))
            go_ret
            exact ⟨by rw [HR.out]; rfl, (BW.out.alloc BW.out.size _).alloc (by have := BW.out.size; simp; omega) _⟩
        · have hltz : ¬ (kk : Int) < (l0.length : Int) := by omega
          have hkl : kk = l0.length := by omega
          have HN : Aside0 (table_Check.scan [] l0 = 0) := ⟨by rw [EQ.out, hkl, List.drop_length]; rfl⟩
          clear hkl
          go_wp2
          go_ret
          refine ⟨?_, BW.out⟩
          rw [HN.out]
          rfl
  · cases h
end

/-! ### pacelineref07_in: function 34 -/
def pacelineref07_in.f (a0 : Int) (a1 : Int) : Option (Bool) := if a0 ≥ 0 then (some (decide (a0 < a1))) else (some false)
set_option maxHeartbeats 8000000 in
set_option maxRecDepth 100000 in
theorem pacelineref07_in.calls (a0 : Int) (a1 : Int) (r : Bool) (w : World) (h : pacelineref07_in.f a0 a1 = some r) :
    Calls Try.prog 34 #[.int .i64 a0, .int .i64 a1] w fun e w' => e = .returned (.bool r) ∧ Drawn0 w w' := by
  have H : (if a0 ≥ 0 then (some (decide (a0 < a1))) else (some false)) = some r := h
  clear h
  by_cases c3 : a0 ≥ 0
  · rw [if_pos c3] at H
    have c3b0 : decide (0 ≤ a0) = true := decide_eq_true c3
    clear c3
    obtain rfl := Option.some.inj H
    go_enter Try.func34, Try.ntmps34
    go_wp2
    go_ret
    exact ⟨by first | rfl | (simp; done) | (simp [*]; done), by repeat (first | exact Drawn0.refl _ | apply Drawn0.step)⟩
  · rw [if_neg c3] at H
    have c3b0 : decide (0 ≤ a0) = false := decide_eq_false c3
    clear c3
    obtain rfl := Option.some.inj H
    go_enter Try.func34, Try.ntmps34
    go_wp2
    go_ret
    exact ⟨by first | rfl | (simp; done) | (simp [*]; done), by repeat (first | exact Drawn0.refl _ | apply Drawn0.step)⟩

end Go.Proofs.Ytccidadepjcjjaa.PTableTurned
