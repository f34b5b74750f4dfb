-- Written by gp.py (this project's driver over the kit's print) out of the translation and wip/given; Lean checks it.
import Derived.Test.YtccidadepjcjjaaPTableStaysx0
namespace Go.Proofs.Ytccidadepjcjjaa.PTableStays
open Go.RowKit Go.Proofs.YtccidadepjcjjaaR Go.Proofs.YtccidadepjcjjaaW.PrintWords Go.Proofs.YtccidadepjcjjaaW.PrintLast Go.Proofs.YtccidadepjcjjaaW.PrintMore
attribute [local go_sem] max2_int min2_int max_two min_two max_three min_three max_four min_four   -- for this text's walks alone
set_option linter.unusedVariables false
set_option linter.unusedSimpArgs false

/-! ### pacelinelaw07_heavy: function 11 -/
def pacelinelaw07_heavy.l0 : Nat → List (S49) → Int → Option (Bool)
  | 0, _, _ => none
  | k + 1, x0, x3 => if x3 < (x0.length : Int) then (if 0 ≤ x3 then (if (((rd_T49 x0 x3).f3).length : Int) > 20 then (some true) else (pacelinelaw07_heavy.l0 k x0 (wrap64 (x3 + 1)))) else (none)) else (some false)
def pacelinelaw07_heavy.f (k : Nat) (l0 : List (S49)) : Option (Bool) := if (l0.length : Int) > 60 then (some true) else (pacelinelaw07_heavy.l0 k l0 0)
theorem pacelinelaw07_heavy.mono_l : ∀ k, (∀ y0 y1, LeO (pacelinelaw07_heavy.l0 k y0 y1) (pacelinelaw07_heavy.l0 (k + 1) y0 y1))
  | 0 => fun _ _ r h => by simp [pacelinelaw07_heavy.l0] at h
  | k + 1 => by
    have ih0 := pacelinelaw07_heavy.mono_l k
    · intro y0 y1
      unfold pacelinelaw07_heavy.l0
      repeat' first
      | (with_reducible exact ih0 _ _)
      | (with_reducible exact LeO.refl _)
      | (with_reducible exact LeO.none _)
      | (with_reducible refine LeO.ite ?_ ?_)
      | (with_reducible refine LeO.bind ?_ (fun _ => ?_))
      | exact ih0 _ _
      | exact LeO.none _
      | refine LeO.ite ?_ ?_
      | refine LeO.bind ?_ (fun _ => ?_)
theorem pacelinelaw07_heavy.mono : ∀ a0 k, LeO (pacelinelaw07_heavy.f k a0) (pacelinelaw07_heavy.f (k + 1) a0) := by
  intro a0 k
  have ih0 := pacelinelaw07_heavy.mono_l k
  unfold pacelinelaw07_heavy.f
  repeat' first
      | (with_reducible exact ih0 _ _)
      | (with_reducible exact LeO.refl _)
      | (with_reducible exact LeO.none _)
      | (with_reducible refine LeO.ite ?_ ?_)
      | (with_reducible refine LeO.bind ?_ (fun _ => ?_))
      | exact ih0 _ _
      | exact LeO.none _
      | refine LeO.ite ?_ ?_
      | refine LeO.bind ?_ (fun _ => ?_)
set_option maxHeartbeats 8000000 in
set_option maxRecDepth 100000 in
theorem pacelinelaw07_heavy.calls (k : Nat) (A0 : Option Addr) (c0 : Nat) (l0 : List (S49)) (r : Bool) (w : World) (hr0 : Kd.C k49 w A0 l0.length l0) (hc0 : l0.length ≤ c0) (h : pacelinelaw07_heavy.f k l0 = some r) :
    Calls Try.prog 11 #[.slice A0 l0.length c0] w fun e w' => e = .returned (.bool r) ∧ Drawn0 w w' := by
  have HR0 := Aside0.mk hr0
  have HC0 := Aside0.mk hc0
  clear hr0 hc0
  have H : (if (l0.length : Int) > 60 then (some true) else (pacelinelaw07_heavy.l0 k l0 0)) = some r := h
  clear h
  by_cases c2 : (l0.length : Int) > 60
  · rw [if_pos c2] at H
    have c2b0 : decide (60 < (l0.length : Int)) = true := decide_eq_true c2
    have c2b1 : decide (60 < l0.length) = true := decide_eq_true (by omega)
    clear c2
    obtain rfl := Option.some.inj H
    go_enter Try.func11, Try.ntmps11
    go_wp2
    go_ret
    exact ⟨by first | rfl | (simp; done) | (simp [*]; done), by repeat (first | exact Drawn0.refl _ | apply Drawn0.step)⟩
  · rw [if_neg c2] at H
    have c2b0 : decide (60 < (l0.length : Int)) = false := decide_eq_false c2
    have c2b1 : decide (60 < l0.length) = false := decide_eq_false (by omega)
    clear c2
    have H' := Aside0.mk H
    clear H
    go_enter Try.func11, Try.ntmps11
    go_wp2
    go_loopg [3] k (fun kq v3 w' => ∃ (x3_1 : Int), v3 = .int .i64 x3_1 ∧ Aside0 (pacelinelaw07_heavy.l0 kq l0 x3_1 = some r) ∧ Aside0 (kq ≤ k) ∧ Drawn0 w w')
    case atStart => exact ⟨(0), (by first | rfl | (simp; done) | (simp [*]; done)), H', ⟨Nat.le_refl _⟩, by repeat (first | exact Drawn0.refl _ | apply Drawn0.step)⟩
    case round =>
      clear H'
      try clear c1
      try clear c2
      try clear c2b0
      try clear c2b1
      try clear p2
      obtain ⟨x3_1, rfl, HA, HK1, ⟨m1, rfl⟩⟩ := hrel
      cases gk with
      | zero => exact absurd HA.out (by simp [pacelinelaw07_heavy.l0])
      | succ k1 =>
        have H := HA.out
        clear HA
        simp only [pacelinelaw07_heavy.l0] at H
        by_cases c3 : x3_1 < (l0.length : Int)
        · rw [if_pos c3] at H
          have c3b0 : decide (x3_1 < (l0.length : Int)) = true := decide_eq_true c3
          clear c3
          by_cases c4 : 0 ≤ x3_1
          · rw [if_pos c4] at H
            have c4b0 : decide (0 ≤ x3_1) = true := decide_eq_true c4
            clear c4
            by_cases c5 : (((rd_T49 l0 x3_1).f3).length : Int) > 20
            · rw [if_pos c5] at H
              have c5b0 : decide (20 < (((rd_T49 l0 x3_1).f3).length : Int)) = true := decide_eq_true c5
              have c5b1 : decide (20 < ((rd_T49 l0 x3_1).f3).length) = true := decide_eq_true (by omega)
              clear c5
              obtain rfl := Option.some.inj H
              have p101 : 0 ≤ (x3_1 : Int) := of_decide_eq_true (by first | (with_reducible assumption) | assumption)
              have q101 : x3_1 < (l0.length : Int) := of_decide_eq_true (by first | (with_reducible assumption) | assumption)
              obtain ⟨ad101, A101_3, c101_3, e101, hx101_0, hx101_1, hx101_2, hx101_3, hl101_3, hi101_3⟩ := at_T49 HR0.out x3_1 p101 q101
              cases e101
              have HR101_3 := Aside0.mk hi101_3
              have HC101_3 := Aside0.mk hl101_3
              clear hi101_3 hl101_3
              replace p101 := eq_true p101
              replace q101 := eq_true q101
              go_wp2
              go_ret
              exact ⟨by first | rfl | (simp; done) | (simp [*]; done), by repeat (first | exact Drawn0.refl _ | apply Drawn0.step)⟩
            · rw [if_neg c5] at H
              have c5b0 : decide (20 < (((rd_T49 l0 x3_1).f3).length : Int)) = false := decide_eq_false c5
              have c5b1 : decide (20 < ((rd_T49 l0 x3_1).f3).length) = false := decide_eq_false (by omega)
              clear c5
              have H' := Aside0.mk H
              clear H
              have p101 : 0 ≤ (x3_1 : Int) := of_decide_eq_true (by first | (with_reducible assumption) | assumption)
              have q101 : x3_1 < (l0.length : Int) := of_decide_eq_true (by first | (with_reducible assumption) | assumption)
              obtain ⟨ad101, A101_3, c101_3, e101, hx101_0, hx101_1, hx101_2, hx101_3, hl101_3, hi101_3⟩ := at_T49 HR0.out x3_1 p101 q101
              cases e101
              have HR101_3 := Aside0.mk hi101_3
              have HC101_3 := Aside0.mk hl101_3
              clear hi101_3 hl101_3
              replace p101 := eq_true p101
              replace q101 := eq_true q101
              go_wp2
              go_roundg k1
              case measure => have := HK1.out; omega
              case rel => exact ⟨(wrap64 (x3_1 + 1)), (by first | rfl | (simp; done) | (simp [*]; done)), H', ⟨by have := HK1.out; omega⟩, by repeat (first | exact Drawn0.refl _ | apply Drawn0.step)⟩
          · rw [if_neg c4] at H
            exact absurd H (by simp)
        · rw [if_neg c3] at H
          have c3b0 : decide (x3_1 < (l0.length : Int)) = false := decide_eq_false c3
          clear c3
          obtain rfl := Option.some.inj H
          go_wp2
          go_ret
          exact ⟨by first | rfl | (simp; done) | (simp [*]; done), by repeat (first | exact Drawn0.refl _ | apply Drawn0.step)⟩

/-! ### table_Find: function 19 (by hand) -/
open Go.Proofs.YtccidadepjcjjaaI in
def table_Find.f (l0 : List S49) (a1 : Int) (a2 : Int) : Option Int := some (idx (fun r => r.f0 == a1 && r.f1 == a2) l0)
section
open Go.Proofs.YtccidadepjcjjaaI
set_option maxRecDepth 100000 in
set_option maxHeartbeats 1000000 in
theorem table_Find.pred (a1 a2 : Int) (l : List S49) (w : World) (Bs Bc : Nat) (hs : w.cell? ⟨Bs, 0, none⟩ = some (.int .i64 a1)) (hc : w.cell? ⟨Bc, 0, none⟩ = some (.int .i64 a2)) (hBs : Bs < w.heap.size) (hBc : Bc < w.heap.size) :
    Pred Try.prog 30 #[.pointer (some ⟨Bs, 0, none⟩), .pointer (some ⟨Bc, 0, none⟩)] k49 (fun r => r.f0 == a1 && r.f1 == a2) l w := by
  intro W x cs hb _ hK
  obtain ⟨A3, c3, rfl, l3, g3⟩ := k49_open hK
  have hs' : W.cell? ⟨Bs, 0, none⟩ = some (.int .i64 a1) := (hb.cell (p := ⟨Bs, 0, none⟩) hBs).trans hs
  have hc' : W.cell? ⟨Bc, 0, none⟩ = some (.int .i64 a2) := (hb.cell (p := ⟨Bc, 0, none⟩) hBc).trans hc
  clear hs hc hK g3
  have hu := Try.underlying49
  have HB : Below W.heap.size W (W.alloc (.cells #[.int .i64 x.f0, .int .i64 x.f1, .int .i64 x.f2, .slice A3 x.f3.length c3] 49)) := (Below.refl _ W).alloc (Nat.le_refl _) _
  have hs2 := pw_cell_below HB hs'
  have hc2 := pw_cell_below HB hc'
  have HB' := Aside0.mk HB
  clear HB hs' hc'
  by_cases h0 : x.f0 = a1
  · have h0b : (x.f0 == a1) = true := beq_iff_eq.mpr h0
    clear h0
    by_cases h1 : x.f1 = a2
    · have h1b : (x.f1 == a2) = true := beq_iff_eq.mpr h1
      clear h1
      go_enter Try.func30, Try.ntmps30
      go_wp2
      go_ret
      exact ⟨by first | rfl | simp [*], HB'.out⟩
    · have h1b : (x.f1 == a2) = false := beq_eq_false_iff_ne.mpr h1
      clear h1
      go_enter Try.func30, Try.ntmps30
      go_wp2
      go_ret
      exact ⟨by first | rfl | simp [*], HB'.out⟩
  · have h0b : (x.f0 == a1) = false := beq_eq_false_iff_ne.mpr h0
    clear h0
    go_enter Try.func30, Try.ntmps30
    go_wp2
    go_ret
    exact ⟨by first | rfl | simp [*], HB'.out⟩
set_option maxRecDepth 100000 in
set_option maxHeartbeats 1000000 in
theorem table_Find.calls (A0 : Option Addr) (c0 : Nat) (l0 : List S49) (a1 : Int) (a2 : Int) (r : Int) (w : World) (hr0 : Kd.C k49 w A0 l0.length l0) (hc0 : l0.length ≤ c0) (h : table_Find.f l0 a1 a2 = some r) :
    Calls Try.prog 19 #[.slice A0 l0.length c0, .int .i64 a1, .int .i64 a2] w fun e w' => e = .returned (.int .i64 r) ∧ Below w.heap.size w w' := by
  obtain rfl := Option.some.inj h
  clear h
  have hmf : ∀ (fn : Fn) (first cap : Array Value) (w : World), (Instr.makeFunc fn first cap).run Try.prog w = .ok (.func fn first cap) w := fun _ _ _ _ => rfl
  have hB1 : Below w.heap.size w ((w.alloc (.cells #[.int .i64 a1] 3)).alloc (.cells #[.int .i64 a2] 3)) := ((Below.refl _ w).alloc (Nat.le_refl _) _).alloc (by simp) _
  have hcall := index_rule k49 rfl (fun r => r.f0 == a1 && r.f1 == a2) 30 #[.pointer (some ⟨w.heap.size, 0, none⟩), .pointer (some ⟨w.heap.size + 1, 0, none⟩)] (enters_of Try.func30 (by kernel_rfl) rfl) A0 c0 l0 _ (Kd.C_below hr0 hB1)
    (table_Find.pred a1 a2 l0 _ w.heap.size (w.heap.size + 1) (by simp) (by simp) (by simp; omega) (by simp))
  have HC := Aside0.mk hcall
  have HB := Aside0.mk hB1
  clear hcall hB1 hr0
  go_enter Try.func19, Try.ntmps19
  go_wp2_with (go_at_call 29; refine HC.out.mono ?_; rintro e w' ⟨rfl, hb⟩)
  go_ret
  exact ⟨rfl, below_then HB.out HB.out.size hb⟩
end

/-! ### slices_Clone: function 24 (by hand) -/
def slices_Clone.f (l0 : List S23) : Option (List S23) := if l0.length < 1000000 then some l0 else none
set_option maxRecDepth 100000 in
set_option maxHeartbeats 1000000 in
theorem slices_Clone.calls (A0 : Option Addr) (c0 : Nat) (l0 : List S23) (r : List S23) (w : World) (hr0 : Kd.C k23 w A0 l0.length l0) (hc0 : l0.length ≤ c0) (h : slices_Clone.f l0 = some r) :
    Calls Try.prog 24 #[.slice A0 l0.length c0] w fun e w' => ∃ v0_ : Value, e = .returned (v0_) ∧ Kd.R k23 23 w' w.heap.size (fun _ => True) v0_ r ∧ Below w.heap.size w w' := by
  unfold slices_Clone.f at h
  by_cases hl : l0.length < 1000000
  · rw [if_pos hl] at h
    obtain rfl := Option.some.inj h
    clear h
    cases A0 with
    | none =>
      have hn : l0 = [] := by
        rcases l0 with _ | ⟨x, l⟩
        · rfl
        · obtain ⟨ad, e, _⟩ := hr0.2.2 (by simp)
          cases e
      have HN := Aside0.mk hn
      clear hn hr0
      have heq := fun W => Lib.run_eql_slice_nil_nil (P := Try.prog) W (t := 37) (e := 23) l0.length c0 Try.underlying37
      go_enter Try.func24, Try.ntmps24
      go_wp2
      go_ret
      refine ⟨_, rfl, ?_, Below.refl _ _⟩
      rw [HN.out]
      exact Kd.R_nil _ _ _ _ _
    | some ad =>
      have HR := Aside0.mk hr0
      clear hr0
      have heq := fun W => Lib.run_eql_slice_some_nil (P := Try.prog) W (t := 37) (e := 23) ad l0.length c0 Try.underlying37
      go_enter Try.func24, Try.ntmps24
      go_wp2_with (first
        | ((with_reducible refine gate_dst (N := 5) rfl ?_); refine Kd.R_lit k23 _ 23 ?hg (N := 5) ?hd (xs := ([] : List (S23))) (inner := []) (ok := fun _ => True) (okp := fun _ => True) ?hr ?hp (fun _ hk => hk) trivial (Below.refl _ _) (Nat.le_refl _) (by simp) ?_; (case hd => rfl); (case hg => rfl); (case hr => first | (go_simp; done) | (go_simp; rfl)); (case hp => exact (Reps.none _ _)); intro v1 w1 ho1 hb1 hg_ hnew_; clear hg_ hnew_; have HO := Aside0.mk ho1; have HB := Aside0.mk hb1; clear ho1 hb1)
        | ((with_reducible refine gate_builtin (b := .append) (xs := #[.tmp 5, .tmp 6]) rfl ?_); at_builtin; refine Kd.R_append_rows k23 (w0 := w) w.heap.size rfl (.tmp 5) (.tmp 6) 37 23 (.agg #[(.int .i64 0), (.int .i64 0), (.int .i64 0)]) 24 rfl Try.underlying37 info23 rfl (by decide) (by omega) v1 [] l0 _ _ _ (fun _ => True) (fun _ => False) rfl rfl ?aO ?aR (fun _ _ h => h) (fun _ h => h.elim) ?aF ?aB ?aS ?aL ?_; (case aO => exact HO.out); (case aR => exact Kd.C_below HR.out HB.out); (case aF => exact fun _ _ => trivial); (case aB => exact HB.out); (case aS => exact HB.out.size); (case aL => simp; omega); intro v2 w2 ho2 hb2 hg2 hat2; have HO2 := Aside0.mk ho2; have HB2 := Aside0.mk hb2; clear ho2 hb2 hg2 hat2))
      go_ret
      refine ⟨_, rfl, ?_, HB2.out⟩
      simpa using HO2.out
  · rw [if_neg hl] at h
    cases h

/-! ### table_Step: function 15 -/
def table_Step.f (l0 : List (S49)) (a1 : Int) (a2 : Int) : Option (Int × (List (S23))) := (table_Find.f l0 a1 a2).bind fun t102 => (if t102 < 0 then (some (a1, ([] : List (S23)))) else (if 0 ≤ t102 then (if t102 < (l0.length : Int) then ((slices_Clone.f ((rd_T49 l0 t102).f3)).bind fun t105 => (some ((rd_T49 l0 t102).f2, t105))) else (none)) else (none)))
def table_Step.T4 : Bool × List (List Nat × List Nat) := (true, [([], []), ([], []), ([0, 1], [0, 1]), ([2], [2]), ([3], [3]), ([], []), ([], []), ([5, 6], [5, 6]), ([7], [7]), ([8], [8]), ([9], [9]), ([4, 10, 0, 1, 2, 3, 4], [4]), ([10, 11, 0, 1, 2, 3, 4, 5, 6, 7, 8, 9, 10, 11], [10])])
def table_Step.B4 : List Nat := [0, 0, 3, 7, 15, 0, 0, 96, 224, 480, 992, 2047, 4095]
theorem table_Step.tab4 : rtab .any (opsOf Try.f15 4) = table_Step.T4 := by kernel_rfl
theorem table_Step.bits4 : waitsOk table_Step.T4.2 table_Step.B4 = true := by kernel_rfl
set_option maxHeartbeats 8000000 in
set_option maxRecDepth 100000 in
theorem table_Step.calls (A0 : Option Addr) (c0 : Nat) (l0 : List (S49)) (a1 : Int) (a2 : Int) (r1 : Int) (r2 : List (S23)) (w : World) (hr0 : Kd.C k49 w A0 l0.length l0) (hc0 : l0.length ≤ c0) (h : table_Step.f l0 a1 a2 = some (r1, r2)) :
    Calls Try.prog 15 #[.slice A0 l0.length c0, .int .i64 a1, .int .i64 a2] w fun e w' => ∃ v1_ : Value, e = .returned (.tuple #[.int .i64 r1, v1_]) ∧ Kd.R k23 23 w' w.heap.size (fun _ => True) v1_ r2 ∧ Below w.heap.size w w' := by
  have HR0 := Aside0.mk hr0
  have HC0 := Aside0.mk hc0
  clear hr0 hc0
  have HB := Aside0.mk (Below.refl w.heap.size w)
  have H : ((table_Find.f l0 a1 a2).bind fun t102 => (if t102 < 0 then (some (a1, ([] : List (S23)))) else (if 0 ≤ t102 then (if t102 < (l0.length : Int) then ((slices_Clone.f ((rd_T49 l0 t102).f3)).bind fun t105 => (some ((rd_T49 l0 t102).f2, t105))) else (none)) else (none)))) = some (r1, r2) := h
  clear h
  replace H := Option.bind_eq_some_iff.mp H
  obtain ⟨t102, A40, H⟩ := H
  replace H : (if t102 < 0 then (some (a1, ([] : List (S23)))) else (if 0 ≤ t102 then (if t102 < (l0.length : Int) then ((slices_Clone.f ((rd_T49 l0 t102).f3)).bind fun t105 => (some ((rd_T49 l0 t102).f2, t105))) else (none)) else (none))) = some (r1, r2) := H
  have A4 := Aside0.mk A40
  clear A40
  by_cases c5 : t102 < 0
  · rw [if_pos c5] at H
    have c5b0 : decide (t102 < 0) = true := decide_eq_true c5
    clear c5
    simp only [Option.some.injEq, Prod.mk.injEq] at H
    obtain ⟨rfl, rfl⟩ := H
    go_enter Try.func15, Try.ntmps15
    go_wp2_with (first | ((with_reducible refine gate_callee (f := 19) rfl ?_); refine goesL_ (some 12) rfl rfl Try.func19 (by kernel_rfl) rfl #[.slice A0 l0.length c0, .int .i64 a1, .int .i64 a2] rfl (by (try simp only [List.map_toArray, List.map_cons, List.map_nil]); first | done | rfl | (simp only [List.length_drop, List.length_take]; rfl)) ?_; (with_reducible refine (table_Find.calls _ _ l0 a1 a2 t102 _ ?side1 ?side2 A4.out).mono ?_); (case side1 => repeat (first | exact HR0.out | (with_reducible refine Kd.C_alloc ?_ _) | (with_reducible refine Kd.C_drewN ?_ _) | (with_reducible refine Kd.C_drew ?_))); (case side2 => exact HC0.out); rintro e w6 ⟨rfl, hb⟩; refine ⟨_, rfl, ?_⟩; have n0_ := Aside0.mk (below_step (by repeat (first | (with_reducible first | exact HB.out | apply below_alloc | apply pw_below_drewN | apply below_drew1) | exact HB.out)) hb); clear HB; have HB := n0_; clear n0_; (try clear hb); (try clear hb2); (try clear hk); (try clear hi)))
    go_ret2
    exact ⟨_, by first | rfl | (simp [errW_none, errW_some] <;> rfl) | (simp [*, errW_none, errW_some] <;> rfl), by first | exact Kd.R_nil _ _ _ _ _ | exact Kd.N_nil _ _ _ _ _ | exact Kd.V_nil _ _ _ _ _ | exact Kd.Q_nil _ _ _ _ _ | exact Kd.S_nil _ _ _ _ _, by repeat (first | (with_reducible first | exact HB.out | apply below_alloc | apply pw_below_drewN | apply below_drew1) | exact HB.out)⟩
  · rw [if_neg c5] at H
    have c5b0 : decide (t102 < 0) = false := decide_eq_false c5
    clear c5
    by_cases c7 : 0 ≤ t102
    · rw [if_pos c7] at H
      have c7b0 : decide (0 ≤ t102) = true := decide_eq_true c7
      clear c7
      by_cases c8 : t102 < (l0.length : Int)
      · rw [if_pos c8] at H
        have c8b0 : decide (t102 < (l0.length : Int)) = true := decide_eq_true c8
        clear c8
        replace H := Option.bind_eq_some_iff.mp H
        obtain ⟨t105, A90, H⟩ := H
        replace H : (some ((rd_T49 l0 t102).f2, t105)) = some (r1, r2) := H
        have A9 := Aside0.mk A90
        clear A90
        simp only [Option.some.injEq, Prod.mk.injEq] at H
        obtain ⟨rfl, rfl⟩ := H
        go_enter Try.func15, Try.ntmps15
        try go_wp2_with (first | ((with_reducible refine gate_callee (f := 19) rfl ?_); refine goesL_ (some 12) rfl rfl Try.func19 (by kernel_rfl) rfl #[.slice A0 l0.length c0, .int .i64 a1, .int .i64 a2] rfl (by (try simp only [List.map_toArray, List.map_cons, List.map_nil]); first | done | rfl | (simp only [List.length_drop, List.length_take]; rfl)) ?_; (with_reducible refine (table_Find.calls _ _ l0 a1 a2 t102 _ ?side1 ?side2 A4.out).mono ?_); (case side1 => repeat (first | exact HR0.out | (with_reducible refine Kd.C_alloc ?_ _) | (with_reducible refine Kd.C_drewN ?_ _) | (with_reducible refine Kd.C_drew ?_))); (case side2 => exact HC0.out); rintro e w10 ⟨rfl, hb⟩; refine ⟨_, rfl, ?_⟩; have n0_ := Aside0.mk (below_step (by repeat (first | (with_reducible first | exact HB.out | apply below_alloc | apply pw_below_drewN | apply below_drew1) | exact HB.out)) hb); clear HB; have HB := n0_; clear n0_; (try clear hb); (try clear hb2); (try clear hk); (try clear hi)))
        have n0_ := Aside0.mk (below_drew1 HB.out)
        clear HB
        have HB := n0_
        clear n0_
        have p103 : 0 ≤ (t102 : Int) := of_decide_eq_true (by first | (with_reducible assumption) | assumption)
        have q103 : t102 < (l0.length : Int) := of_decide_eq_true (by first | (with_reducible assumption) | assumption)
        obtain ⟨ad103, A103_3, c103_3, e103, hx103_0, hx103_1, hx103_2, hx103_3, hl103_3, hi103_3⟩ := at_T49 HR0.out t102 p103 q103
        have hw103_3 := hx103_3
        have hw103_2 := hx103_2
        have hw103_1 := hx103_1
        have hw103_0 := hx103_0
        cases e103
        replace hx103_0 := (HB.out.cell (World.block_lt_of_cell? w _ hx103_0)).trans hx103_0
        replace hx103_1 := (HB.out.cell (World.block_lt_of_cell? w _ hx103_1)).trans hx103_1
        replace hx103_2 := (HB.out.cell (World.block_lt_of_cell? w _ hx103_2)).trans hx103_2
        replace hx103_3 := (HB.out.cell (World.block_lt_of_cell? w _ hx103_3)).trans hx103_3
        have HR103_3 := Aside0.mk hi103_3
        have HC103_3 := Aside0.mk hl103_3
        clear hi103_3 hl103_3
        replace p103 := eq_true p103
        replace q103 := eq_true q103
        have p104 : 0 ≤ (t102 : Int) := of_decide_eq_true (by first | (with_reducible assumption) | assumption)
        have q104 : t102 < (l0.length : Int) := of_decide_eq_true (by first | (with_reducible assumption) | assumption)
        obtain ⟨ad104, A104_3, c104_3, e104, hx104_0, hx104_1, hx104_2, hx104_3, hl104_3, hi104_3⟩ := at_T49 HR0.out t102 p104 q104
        have hw104_3 := hx104_3
        have hw104_2 := hx104_2
        have hw104_1 := hx104_1
        have hw104_0 := hx104_0
        obtain rfl : ad103 = ad104 := (by injection e104)
        replace hx104_0 := (HB.out.cell (World.block_lt_of_cell? w _ hx104_0)).trans hx104_0
        replace hx104_1 := (HB.out.cell (World.block_lt_of_cell? w _ hx104_1)).trans hx104_1
        replace hx104_2 := (HB.out.cell (World.block_lt_of_cell? w _ hx104_2)).trans hx104_2
        replace hx104_3 := (HB.out.cell (World.block_lt_of_cell? w _ hx104_3)).trans hx104_3
        have HR104_3 := Aside0.mk hi104_3
        have HC104_3 := Aside0.mk hl104_3
        clear hi104_3 hl104_3
        replace p104 := eq_true p104
        replace q104 := eq_true q104
        have ea_ := Option.some.inj (hx103_3.symm.trans hx104_3)
        injection ea_ with ea_ en_ ec_
        subst ea_
        subst ec_
        clear en_
        refine start_ (n := 13) (S := fun w' => w'.cell? (ad103.add ((t102).toNat * 4)) = some (.int .i64 ((rd_T49 l0 t102).f0)) ∧ w'.cell? ⟨(ad103.add ((t102).toNat * 4)).block, (ad103.add ((t102).toNat * 4)).off + 1, none⟩ = some (.int .i64 ((rd_T49 l0 t102).f1)) ∧ w'.cell? ⟨(ad103.add ((t102).toNat * 4)).block, (ad103.add ((t102).toNat * 4)).off + 2, none⟩ = some (.int .i64 ((rd_T49 l0 t102).f2)) ∧ w'.cell? ⟨(ad103.add ((t102).toNat * 4)).block, (ad103.add ((t102).toNat * 4)).off + 3, none⟩ = some (.slice A103_3 ((rd_T49 l0 t102).f3).length c103_3) ∧ w'.cell? (ad103.add ((t102).toNat * 4)) = some (.int .i64 ((rd_T49 l0 t102).f0)) ∧ w'.cell? ⟨(ad103.add ((t102).toNat * 4)).block, (ad103.add ((t102).toNat * 4)).off + 1, none⟩ = some (.int .i64 ((rd_T49 l0 t102).f1)) ∧ w'.cell? ⟨(ad103.add ((t102).toNat * 4)).block, (ad103.add ((t102).toNat * 4)).off + 2, none⟩ = some (.int .i64 ((rd_T49 l0 t102).f2)) ∧ w'.cell? ⟨(ad103.add ((t102).toNat * 4)).block, (ad103.add ((t102).toNat * 4)).off + 3, none⟩ = some (.slice A103_3 ((rd_T49 l0 t102).f3).length c103_3)) (ds := []) #[false, false, false, false, false, false, false, false, false, false, false, false, false] (by kernel_rfl) rfl rfl ⟨((HB.out.cell (World.block_lt_of_cell? w _ hw103_0)).trans hw103_0), ((HB.out.cell (World.block_lt_of_cell? w _ hw103_1)).trans hw103_1), ((HB.out.cell (World.block_lt_of_cell? w _ hw103_2)).trans hw103_2), ((HB.out.cell (World.block_lt_of_cell? w _ hw103_3)).trans hw103_3), ((HB.out.cell (World.block_lt_of_cell? w _ hw104_0)).trans hw104_0), ((HB.out.cell (World.block_lt_of_cell? w _ hw104_1)).trans hw104_1), ((HB.out.cell (World.block_lt_of_cell? w _ hw104_2)).trans hw104_2), ((HB.out.cell (World.block_lt_of_cell? w _ hw104_3)).trans hw104_3)⟩ (fun hHeld => ?_); refine with_tabW table_Step.tab4 table_Step.bits4 (fun HT_ HW_ => ?_)
        generalize w10.drew = w11 at HB HR103_3 HR104_3 hx103_0 hx103_1 hx103_2 hx103_3 hx104_0 hx104_1 hx104_2 hx104_3 hHeld ⊢
        refine pure_ (i := 0) (N := some 16) (v := ?_) (a' := ?_) #[true, false, false, false, false, false, false, false, false, false, false, false, false] rfl rfl (any_of HT_.out (by kernel_rfl)) (fun _ _ _ h => h) (Or.inl ⟨by rfl, ?_⟩) ?_ ?_
        rotate_left
        · intro w'
          go_simp
          with_reducible rfl
        rotate_left
        · simp only [Act.put, List.setIfInBounds_toArray, List.set_cons_zero, List.set_cons_succ, i64_w, i32_w]
          rfl
        refine pure_ (i := 1) (N := some 17) (v := ?_) (a' := ?_) #[true, true, false, false, false, false, false, false, false, false, false, false, false] rfl rfl (any_of HT_.out (by kernel_rfl)) (fun _ _ _ h => h) (Or.inl ⟨by rfl, ?_⟩) ?_ ?_
        rotate_left
        · intro w'
          go_simp
          with_reducible rfl
        rotate_left
        · simp only [Act.put, List.setIfInBounds_toArray, List.set_cons_zero, List.set_cons_succ, i64_w, i32_w]
          rfl
        refine pure_ (i := 2) (N := some 18) (v := ?_) (a' := ?_) #[true, true, true, false, false, false, false, false, false, false, false, false, false] rfl rfl (any_of HT_.out (by kernel_rfl)) (fun _ _ _ h => h) (Or.inl ⟨by rfl, ?_⟩) ?_ ?_
        rotate_left
        · intro w'
          go_simp
          with_reducible rfl
        rotate_left
        · simp only [Act.put, List.setIfInBounds_toArray, List.set_cons_zero, List.set_cons_succ, i64_w, i32_w]
          rfl
        refine pure_ (i := 3) (N := some 19) (v := ?_) (a' := ?_) #[true, true, true, true, false, false, false, false, false, false, false, false, false] rfl rfl (any_of HT_.out (by kernel_rfl)) (fun _ _ _ h => h) (Or.inl ⟨by rfl, ?_⟩) ?_ ?_
        rotate_left
        · intro w'
          go_simp
          with_reducible rfl
        rotate_left
        · simp only [Act.put, List.setIfInBounds_toArray, List.set_cons_zero, List.set_cons_succ, i64_w, i32_w]
          rfl
        refine pure_ (i := 5) (N := some 21) (v := ?_) (a' := ?_) #[true, true, true, true, false, true, false, false, false, false, false, false, false] rfl rfl (any_of HT_.out (by kernel_rfl)) (fun _ _ _ h => h) (Or.inl ⟨by rfl, ?_⟩) ?_ ?_
        rotate_left
        · intro w'
          go_simp
          with_reducible rfl
        rotate_left
        · simp only [Act.put, List.setIfInBounds_toArray, List.set_cons_zero, List.set_cons_succ, i64_w, i32_w]
          rfl
        refine pure_ (i := 6) (N := some 22) (v := ?_) (a' := ?_) #[true, true, true, true, false, true, true, false, false, false, false, false, false] rfl rfl (any_of HT_.out (by kernel_rfl)) (fun _ _ _ h => h) (Or.inl ⟨by rfl, ?_⟩) ?_ ?_
        rotate_left
        · intro w'
          go_simp
          with_reducible rfl
        rotate_left
        · simp only [Act.put, List.setIfInBounds_toArray, List.set_cons_zero, List.set_cons_succ, i64_w, i32_w]
          rfl
        refine pure_ (i := 7) (N := some 23) (v := ?_) (a' := ?_) #[true, true, true, true, false, true, true, true, false, false, false, false, false] rfl rfl (any_of HT_.out (by kernel_rfl)) (fun _ _ _ h => h) (Or.inl ⟨by rfl, ?_⟩) ?_ ?_
        rotate_left
        · intro w'
          go_simp
          with_reducible rfl
        rotate_left
        · simp only [Act.put, List.setIfInBounds_toArray, List.set_cons_zero, List.set_cons_succ, i64_w, i32_w]
          rfl
        refine pure_ (i := 8) (N := some 24) (v := ?_) (a' := ?_) #[true, true, true, true, false, true, true, true, true, false, false, false, false] rfl rfl (any_of HT_.out (by kernel_rfl)) (fun _ _ _ h => h) (Or.inl ⟨by rfl, ?_⟩) ?_ ?_
        rotate_left
        · intro w'
          go_simp
          with_reducible rfl
        rotate_left
        · simp only [Act.put, List.setIfInBounds_toArray, List.set_cons_zero, List.set_cons_succ, i64_w, i32_w]
          rfl
        refine take_ (i := 4) (N := some 20) (v := ?_) (a' := ?_) #[true, true, true, true, true, true, true, true, true, false, false, false, false] rfl rfl (take_ofW HT_.out HW_.out (by kernel_rfl)) (fun _ _ _ h => h) (Or.inl ⟨by rfl, ?_⟩) hHeld ?_ ?_
        rotate_left
        · rintro w' ⟨s0, s1, s2, s3, s4, s5, s6, s7⟩
          go_simp
          with_reducible rfl
        rotate_left
        · simp only [Act.put, List.setIfInBounds_toArray, List.set_cons_zero, List.set_cons_succ, i64_w, i32_w]
          rfl
        refine take_ (i := 9) (N := some 25) (v := ?_) (a' := ?_) #[true, true, true, true, true, true, true, true, true, true, false, false, false] rfl rfl (take_ofW HT_.out HW_.out (by kernel_rfl)) (fun _ _ _ h => h) (Or.inl ⟨by rfl, ?_⟩) hHeld ?_ ?_
        rotate_left
        · rintro w' ⟨s0, s1, s2, s3, s4, s5, s6, s7⟩
          go_simp
          with_reducible rfl
        rotate_left
        · simp only [Act.put, List.setIfInBounds_toArray, List.set_cons_zero, List.set_cons_succ, i64_w, i32_w]
          rfl
        refine one_ (i := 10) (N := some 26) #[true, true, true, true, true, true, true, true, true, true, true, false, false] rfl rfl (one_of HT_.out (by kernel_rfl)) (by decide) (fun K hK => ?_)
        refine goes_ Try.func24 (by kernel_rfl) rfl #[.slice A103_3 ((rd_T49 l0 t102).f3).length c103_3] (by rfl) rfl rfl (by (try simp only [List.map_toArray, List.map_cons, List.map_nil]); first | done | rfl | (simp only [List.length_drop, List.length_take]; rfl)) ?_
        with_reducible refine (slices_Clone.calls _ _ ((rd_T49 l0 t102).f3) t105 _ ?side1 ?side2 A9.out).mono ?_
        (case side1 => repeat (first | exact (Kd.C_below HR104_3.out HB.out) | (with_reducible refine Kd.C_alloc ?_ _) | (with_reducible refine Kd.C_drewN ?_ _) | (with_reducible refine Kd.C_drew ?_)))
        (case side2 => exact HC104_3.out)
        rintro e w12 ⟨v106, rfl, ho0, hb⟩
        refine ⟨_, rfl, ?_⟩
        have n0_ := Aside0.mk (Kd.R_lower ho0 (below_size (by repeat (first | (with_reducible first | exact HB.out | apply below_alloc | apply pw_below_drewN | apply below_drew1) | exact HB.out))))
        have n1_ := Aside0.mk (below_step (by repeat (first | (with_reducible first | exact HB.out | apply below_alloc | apply pw_below_drewN | apply below_drew1) | exact HB.out)) hb)
        clear HB
        have HO107 := n0_
        have HB := n1_
        clear n0_ n1_
        (try clear hb)
        (try clear hb2)
        (try clear hk)
        (try clear hi)
        (try clear ho0)
        refine hK.out _ _ ⟨((HB.out.cell (World.block_lt_of_cell? w _ hw103_0)).trans hw103_0), ((HB.out.cell (World.block_lt_of_cell? w _ hw103_1)).trans hw103_1), ((HB.out.cell (World.block_lt_of_cell? w _ hw103_2)).trans hw103_2), ((HB.out.cell (World.block_lt_of_cell? w _ hw103_3)).trans hw103_3), ((HB.out.cell (World.block_lt_of_cell? w _ hw104_0)).trans hw104_0), ((HB.out.cell (World.block_lt_of_cell? w _ hw104_1)).trans hw104_1), ((HB.out.cell (World.block_lt_of_cell? w _ hw104_2)).trans hw104_2), ((HB.out.cell (World.block_lt_of_cell? w _ hw104_3)).trans hw104_3)⟩ (fun hHeld => ?_)
        clear hK K
        refine norm_ (a' := ?_) ?_ ?_
        rotate_left
        · show Act.put _ (some 26) _ = _
          simp only [Act.put, List.setIfInBounds_toArray, List.set_cons_zero, List.set_cons_succ, i64_w, i32_w]
          rfl
        refine pure_ (i := 11) (N := some 6) (v := ?_) (a' := ?_) #[true, true, true, true, true, true, true, true, true, true, true, true, false] rfl rfl (any_of HT_.out (by kernel_rfl)) (fun _ _ _ h => h) (Or.inl ⟨by rfl, ?_⟩) ?_ ?_
        rotate_left
        · intro w'
          go_simp
          with_reducible rfl
        rotate_left
        · simp only [Act.put, List.setIfInBounds_toArray, List.set_cons_zero, List.set_cons_succ, i64_w, i32_w]
          rfl
        refine pure_ (i := 12) (N := some 7) (v := ?_) (a' := ?_) #[true, true, true, true, true, true, true, true, true, true, true, true, true] rfl rfl (any_of HT_.out (by kernel_rfl)) (fun _ _ _ h => h) (Or.inl ⟨by rfl, ?_⟩) ?_ ?_
        rotate_left
        · intro w'
          go_simp
          with_reducible rfl
        rotate_left
        · simp only [Act.put, List.setIfInBounds_toArray, List.set_cons_zero, List.set_cons_succ, i64_w, i32_w]
          rfl
        refine done_ (done_of HT_.out (by kernel_rfl)) ?_
        try go_wp2
        go_ret2
        exact ⟨_, by first | rfl | (simp [errW_none, errW_some] <;> rfl) | (simp [*, errW_none, errW_some] <;> rfl), by (with_reducible repeat (first | apply Kd.R_alloc | apply Kd.R_drewN | apply Kd.R_drew)); exact HO107.out, by repeat (first | (with_reducible first | exact HB.out | apply below_alloc | apply pw_below_drewN | apply below_drew1) | exact HB.out)⟩
      · rw [if_neg c8] at H
        exact absurd H (by simp)
    · rw [if_neg c7] at H
      exact absurd H (by simp)

/-! ### table_Check: function 17 (by hand) -/
def table_Check.bel (n m : Int) : Bool := decide (0 ≤ n ∧ n < m)
def table_Check.wfo (o : S23) : Bool := (Lit.int .i64 o.f0).wf && (Lit.int .i64 o.f1).wf && (Lit.int .i64 o.f2).wf
def table_Check.wfr (r : S49) : Bool := (Lit.int .i64 r.f0).wf && (Lit.int .i64 r.f1).wf && (Lit.int .i64 r.f2).wf && r.f3.all table_Check.wfo
def table_Check.odd (o : S23) : Bool := !(table_Check.bel o.f0 16) || !(table_Check.bel o.f1 1048577) || !(table_Check.bel o.f2 1000)
def table_Check.met (l : List S49) (s c : Int) : Bool := l.any (fun r => r.f0 == s && r.f1 == c)
def table_Check.bad (l : List S49) (r : S49) : Bool := table_Check.met l r.f0 r.f1 || !(table_Check.bel r.f0 8) || !(table_Check.bel r.f2 8) || !(table_Check.bel r.f1 16) || decide (3 < r.f3.length) || r.f3.any table_Check.odd
def table_Check.scan : List S49 → List S49 → Int
  | _, [] => 0
  | l, r :: t => if table_Check.bad l r then 70 else table_Check.scan (l ++ [r]) t
def table_Check.f (l0 : List S49) : Option Int := if l0.all table_Check.wfr then some (if 32 < l0.length then 70 else table_Check.scan [] l0) else none
section
open Go.Proofs.YtccidadepjcjjaaI Go.Proofs.YtccidadepjcjjaaM
theorem table_Check.wrap_lt (n m : Int) (hn : (Lit.int .i64 n).wf = true) (hm : 0 ≤ m ∧ m < 9223372036854775808) : decide (IntKind.u64.wrap n < m) = table_Check.bel n m := by
  obtain ⟨h1, h2⟩ := wf_i64 hn
  unfold table_Check.bel
  rw [decide_eq_decide]
  by_cases h : 0 ≤ n
  · have : IntKind.u64.wrap n = n := by simp only [IntKind.wrap, IntKind.bits, IntKind.signed, Bool.false_and, Bool.false_eq_true, if_false]; omega
    omega
  · have : IntKind.u64.wrap n = n + 18446744073709551616 := by simp only [IntKind.wrap, IntKind.bits, IntKind.signed, Bool.false_and, Bool.false_eq_true, if_false]; omega
    omega
set_option maxHeartbeats 1000000 in
theorem table_Check.below (n m : Int) (hn : (Lit.int .i64 n).wf = true) (hm : 0 ≤ m ∧ m < 9223372036854775808) (w : World) : Calls Try.prog 26 #[.int .i64 n, .int .i64 m] w fun e w' => e = .returned (.bool (table_Check.bel n m)) ∧ w' = w := by
  have HX := Aside0.mk (table_Check.wrap_lt n m hn hm)
  go_enter Try.func26, Try.ntmps26
  go_wp2
  go_ret
  refine ⟨?_, rfl⟩
  rw [← HX.out]
  rfl
theorem table_Check.wfo3 {o : S23} (h : table_Check.wfo o = true) : (Lit.int .i64 o.f0).wf = true ∧ (Lit.int .i64 o.f1).wf = true ∧ (Lit.int .i64 o.f2).wf = true := by
  unfold table_Check.wfo at h
  simp only [Bool.and_eq_true] at h
  exact ⟨h.1.1, h.1.2, h.2⟩
theorem table_Check.wfr4 {o : S49} (h : table_Check.wfr o = true) : (Lit.int .i64 o.f0).wf = true ∧ (Lit.int .i64 o.f1).wf = true ∧ (Lit.int .i64 o.f2).wf = true ∧ o.f3.all table_Check.wfo = true := by
  unfold table_Check.wfr at h
  simp only [Bool.and_eq_true] at h
  exact ⟨h.1.1.1, h.1.1.2, h.1.2, h.2⟩
set_option maxRecDepth 100000 in
set_option maxHeartbeats 1000000 in
theorem table_Check.pred (l : List S23) (hwf : l.all table_Check.wfo = true) (w : World) : Pred Try.prog 25 #[] k23 table_Check.odd l w := by
  intro W x cs hb hx hK
  obtain rfl := k23_open hK
  obtain ⟨w0, w1, w2⟩ := table_Check.wfo3 (List.all_eq_true.mp hwf x hx)
  clear hb hK
  have C0 := Aside0.mk (fun W => table_Check.below x.f0 16 w0 (by omega) W)
  have C1 := Aside0.mk (fun W => table_Check.below x.f1 1048577 w1 (by omega) W)
  have C2 := Aside0.mk (fun W => table_Check.below x.f2 1000 w2 (by omega) W)
  have HO : Aside0 (table_Check.odd x = (!(table_Check.bel x.f0 16) || !(table_Check.bel x.f1 1048577) || !(table_Check.bel x.f2 1000))) := ⟨rfl⟩
  clear w0 w1 w2 hx hwf
  have HB := Aside0.mk ((Below.refl _ W).alloc (Nat.le_refl _) (.cells #[.int .i64 x.f0, .int .i64 x.f1, .int .i64 x.f2] 23))
  have hu := Try.underlying23
  cases h0 : table_Check.bel x.f0 16 <;> cases h1 : table_Check.bel x.f1 1048577 <;> cases h2 : table_Check.bel x.f2 1000
  all_goals
    rw [h0, h1, h2] at HO
    rw [h0] at C0
    rw [h1] at C1
    rw [h2] at C2
    clear h0 h1 h2
    go_enter Try.func25, Try.ntmps25
    go_wp2_with (go_at_call 26; first | (with_reducible refine (C0.out _).mono ?_; rintro e w' ⟨rfl, rfl⟩) | (with_reducible refine (C1.out _).mono ?_; rintro e w' ⟨rfl, rfl⟩) | (with_reducible refine (C2.out _).mono ?_; rintro e w' ⟨rfl, rfl⟩))
    go_ret
    exact ⟨by rw [HO.out]; rfl, HB.out⟩
theorem table_Check.drop_at {α : Type} {l : List α} {k : Nat} {x : α} (hx : l[k]? = some x) : l.drop k = x :: l.drop (k + 1) ∧ l.take (k + 1) = l.take k ++ [x] := by
  obtain ⟨hk, rfl⟩ := List.getElem?_eq_some_iff.1 hx
  exact ⟨List.drop_eq_getElem_cons hk, List.take_succ_eq_append_getElem hk⟩
theorem table_Check.more {l : List S49} {k : Nat} {x : S49} (e : table_Check.scan [] l = table_Check.scan (l.take k) (l.drop k)) (hx : l[k]? = some x) (hb : table_Check.bad (l.take k) x = false) : table_Check.scan [] l = table_Check.scan (l.take (k + 1)) (l.drop (k + 1)) := by
  obtain ⟨h1, h2⟩ := table_Check.drop_at hx
  rw [e, h1, h2, table_Check.scan, hb]
  rfl
theorem table_Check.stop {l : List S49} {k : Nat} {x : S49} (e : table_Check.scan [] l = table_Check.scan (l.take k) (l.drop k)) (hx : l[k]? = some x) (hb : table_Check.bad (l.take k) x = true) : table_Check.scan [] l = 70 := by
  obtain ⟨h1, h2⟩ := table_Check.drop_at hx
  rw [e, h1, table_Check.scan, hb]
  rfl
theorem table_Check.met_more {l : List S49} {k : Nat} {x : S49} (hx : l[k]? = some x) : (fun s' c' => (x.f0 == s' && x.f1 == c') || table_Check.met (l.take k) s' c') = table_Check.met (l.take (k + 1)) := by
  obtain ⟨h1, h2⟩ := table_Check.drop_at hx
  funext s c
  unfold table_Check.met
  rw [h2, List.any_append]
  simp [Bool.or_comm]
set_option maxRecDepth 100000 in
set_option maxHeartbeats 4000000 in
theorem table_Check.calls (A0 : Option Addr) (c0 : Nat) (l0 : List S49) (r : Int) (w : World) (hr0 : Kd.C k49 w A0 l0.length l0) (hc0 : l0.length ≤ c0) (h : table_Check.f l0 = some r) :
    Calls Try.prog 17 #[.slice A0 l0.length c0] w fun e w' => e = .returned (.int .i64 r) ∧ Below w.heap.size w w' := by
  unfold table_Check.f at h
  split at h
  · rename_i hwf
    obtain rfl := Option.some.inj h
    clear h
    have hmf : ∀ (fn : Fn) (first cap : Array Value) (w : World), (Instr.makeFunc fn first cap).run Try.prog w = .ok (.func fn first cap) w := fun _ _ _ _ => rfl
    have hmm := @run_makeMap Try.prog
    have HR := Aside0.mk hr0
    have HW := Aside0.mk hwf
    clear hr0 hwf
    by_cases hlen : 32 < l0.length
    · rw [if_pos hlen]
      have hl : (32 : Int) < (l0.length : Int) := by omega
      clear hlen
      go_enter Try.func17, Try.ntmps17
      go_wp2
      go_ret
      exact ⟨rfl, Below.refl _ w⟩
    · rw [if_neg hlen]
      have hl : ¬ (32 : Int) < (l0.length : Int) := by omega
      have HL := Aside0.mk hlen
      clear hlen
      have HM := Aside0.mk (set_made w)
      go_enter Try.func17, Try.ntmps17
      go_wp2
      go_loopg [14] l0.length (fun gg s14 wr => ∃ kk : Nat, kk ≤ l0.length ∧ l0.length - kk ≤ gg ∧ s14 = .int .i64 kk ∧ Aside0 (Below w.heap.size w wr) ∧ Aside0 (SetIs wr w.heap.size kk (table_Check.met (l0.take kk))) ∧ Aside0 (table_Check.scan [] l0 = table_Check.scan (l0.take kk) (l0.drop kk)))
      case atStart =>
        refine ⟨0, Nat.zero_le _, by omega, rfl, ⟨(Below.refl _ w).alloc (Nat.le_refl _) _⟩, ⟨HM.out⟩, ⟨rfl⟩⟩
      case round =>
        obtain ⟨kk, hkk, hg, rfl, BW, SW, EQ⟩ := hrel
        by_cases hlt : kk < l0.length
        · have hltz : (kk : Int) < (l0.length : Int) := by omega
          obtain ⟨x, hx⟩ : ∃ x, l0[kk]? = some x := ⟨_, List.getElem?_eq_getElem hlt⟩
          obtain ⟨ad, cs, rfl, hcl, hK, hcell⟩ := cells_at (Kd.C_below HR.out BW.out) hx
          obtain ⟨A3, c3, rfl, l3, g3⟩ := k49_open hK
          have q0 : wr.cell? (ad.add (kk * 4)) = some (.int .i64 x.f0) := by exact hcell 0 _ rfl
          have q1 : wr.cell? ⟨(ad.add (kk * 4)).block, (ad.add (kk * 4)).off + 1, none⟩ = some (.int .i64 x.f1) := by have := hcell 1 _ rfl; rwa [add_field _ _ 1 (by omega)] at this
          have q2 : wr.cell? ⟨(ad.add (kk * 4)).block, (ad.add (kk * 4)).off + 2, none⟩ = some (.int .i64 x.f2) := by have := hcell 2 _ rfl; rwa [add_field _ _ 2 (by omega)] at this
          have q3 : wr.cell? ⟨(ad.add (kk * 4)).block, (ad.add (kk * 4)).off + 3, none⟩ = some (.slice A3 x.f3.length c3) := by have := hcell 3 _ rfl; rwa [add_field _ _ 3 (by omega)] at this
          clear hcell hK hcl
          obtain ⟨w0, w1, w2, w3⟩ := table_Check.wfr4 (List.all_eq_true.mp HW.out x (List.mem_of_getElem? hx))
          have W0 := Aside0.mk w0
          have W1 := Aside0.mk w1
          have W3 := Aside0.mk w3
          have G3 := Aside0.mk g3
          have HX := Aside0.mk hx
          have C0 := Aside0.mk (fun W => table_Check.below x.f0 8 w0 (by omega) W)
          have C1 := Aside0.mk (fun W => table_Check.below x.f2 8 w2 (by omega) W)
          have C2 := Aside0.mk (fun W => table_Check.below x.f1 16 w1 (by omega) W)
          have C3 := Aside0.mk (fun (W : World) (hW : Below wr.heap.size wr W) => contains_out k23 rfl table_Check.odd 25 #[] (enters_of Try.func25 (by kernel_rfl) rfl) A3 c3 x.f3 W (Kd.C_below g3 hW) (table_Check.pred x.f3 w3 W))
          clear w0 w1 w2 w3 g3 hx
          have hc : (table_Check.met (l0.take kk) x.f0 x.f1 = true ∧ table_Check.bad (l0.take kk) x = true)
            ∨ (table_Check.met (l0.take kk) x.f0 x.f1 = false ∧ table_Check.bel x.f0 8 = false ∧ table_Check.bad (l0.take kk) x = true)
            ∨ (table_Check.met (l0.take kk) x.f0 x.f1 = false ∧ table_Check.bel x.f0 8 = true ∧ table_Check.bel x.f2 8 = false ∧ table_Check.bad (l0.take kk) x = true)
            ∨ (table_Check.met (l0.take kk) x.f0 x.f1 = false ∧ table_Check.bel x.f0 8 = true ∧ table_Check.bel x.f2 8 = true ∧ table_Check.bel x.f1 16 = false ∧ table_Check.bad (l0.take kk) x = true)
            ∨ (table_Check.met (l0.take kk) x.f0 x.f1 = false ∧ table_Check.bel x.f0 8 = true ∧ table_Check.bel x.f2 8 = true ∧ table_Check.bel x.f1 16 = true ∧ (3 : Int) < (x.f3.length : Int) ∧ table_Check.bad (l0.take kk) x = true)
            ∨ (table_Check.met (l0.take kk) x.f0 x.f1 = false ∧ table_Check.bel x.f0 8 = true ∧ table_Check.bel x.f2 8 = true ∧ table_Check.bel x.f1 16 = true ∧ ¬ (3 : Int) < (x.f3.length : Int) ∧ x.f3.any table_Check.odd = true ∧ table_Check.bad (l0.take kk) x = true)
            ∨ (table_Check.met (l0.take kk) x.f0 x.f1 = false ∧ table_Check.bel x.f0 8 = true ∧ table_Check.bel x.f2 8 = true ∧ table_Check.bel x.f1 16 = true ∧ ¬ (3 : Int) < (x.f3.length : Int) ∧ x.f3.any table_Check.odd = false ∧ table_Check.bad (l0.take kk) x = false) := by
            unfold table_Check.bad
            cases table_Check.met (l0.take kk) x.f0 x.f1 <;> cases table_Check.bel x.f0 8 <;> cases table_Check.bel x.f2 8 <;> cases table_Check.bel x.f1 16 <;> cases x.f3.any table_Check.odd <;> by_cases h3 : 3 < x.f3.length <;> simp [h3] <;> omega
          rcases hc with ⟨h1, hb⟩ | ⟨h1, h2, hb⟩ | ⟨h1, h2, h3, hb⟩ | ⟨h1, h2, h3, h4, hb⟩ | ⟨h1, h2, h3, h4, h5, hb⟩ | ⟨h1, h2, h3, h4, h5, h6, hb⟩ | ⟨h1, h2, h3, h4, h5, h6, hb⟩
          all_goals
            have HB := Aside0.mk hb
            clear hb
          case inr.inr.inr.inr.inr.inr =>
            have HE : Aside0 (table_Check.scan [] l0 = table_Check.scan (l0.take (kk + 1)) (l0.drop (kk + 1))) := ⟨table_Check.more EQ.out HX.out HB.out⟩
            have HQ : Aside0 ((fun s' c' => (x.f0 == s' && x.f1 == c') || table_Check.met (l0.take kk) s' c') = table_Check.met (l0.take (kk + 1))) := ⟨table_Check.met_more HX.out⟩
            have HK : Aside0 (kk < maxLen) := ⟨by have := HL.out; unfold maxLen; omega⟩
            go_wp2_with (first
              | (at_lookup; refine wpList_look _ rfl _ _ rfl _ _ _ _ _ rfl rfl ((SW.out.alloc _).alloc _) W0.out W1.out ?_)
              | (at_mapUpdate; refine wpList_store _ rfl _ _ _ rfl _ _ _ _ _ rfl rfl rfl (((SW.out.alloc _).alloc _).below HB'.out) HK.out W0.out W1.out ?_; intro w'' hS hG)
              | (go_at_call 26; first | (with_reducible refine (C0.out _).mono ?_; rintro e w' ⟨rfl, rfl⟩) | (with_reducible refine (C1.out _).mono ?_; rintro e w' ⟨rfl, rfl⟩) | (with_reducible refine (C2.out _).mono ?_; rintro e w' ⟨rfl, rfl⟩))
              | (go_at_call 27; refine (C3.out _ (((Below.refl _ wr).alloc (Nat.le_refl _) _).alloc (by simp) _)).mono ?_; rintro e w' ⟨rfl, hb'⟩; have b0 := pw_cell_below hb' (show World.cell? _ ⟨wr.heap.size + 1, 0, none⟩ = some (.int .i64 x.f0) by simp); have b1 := pw_cell_below hb' (show World.cell? _ ⟨wr.heap.size + 1, 1, none⟩ = some (.int .i64 x.f1) by simp); have HB' := Aside0.mk hb'; clear hb'))
            have HS := Aside0.mk hS
            have HG := Aside0.mk hG
            clear hS hG
            go_roundg (l0.length - (kk + 1))
            case measure => omega
            case rel =>
              refine ⟨kk + 1, by omega, by omega, by go_num, ⟨below_grown (below_step ((BW.out.alloc BW.out.size _).alloc (by have := BW.out.size; simp; omega) _) HB'.out) HG.out (Nat.le_refl _)⟩, ⟨HQ.out ▸ HS.out⟩, HE⟩
          case inr.inr.inr.inr.inr.inl =>
            have HR : Aside0 (table_Check.scan [] l0 = 70) := ⟨table_Check.stop EQ.out HX.out HB.out⟩
            go_wp2_with (first
              | (at_lookup; refine wpList_look _ rfl _ _ rfl _ _ _ _ _ rfl rfl ((SW.out.alloc _).alloc _) W0.out W1.out ?_)
              | (go_at_call 26; first | (with_reducible refine (C0.out _).mono ?_; rintro e w' ⟨rfl, rfl⟩) | (with_reducible refine (C1.out _).mono ?_; rintro e w' ⟨rfl, rfl⟩) | (with_reducible refine (C2.out _).mono ?_; rintro e w' ⟨rfl, rfl⟩))
              | (go_at_call 27; refine (C3.out _ (((Below.refl _ wr).alloc (Nat.le_refl _) _).alloc (by simp) _)).mono ?_; rintro e w' ⟨rfl, hb'⟩; have HB' := Aside0.mk hb'; clear hb'))
            go_ret
            exact ⟨by rw [HR.out]; rfl, below_step ((BW.out.alloc BW.out.size _).alloc (by have := BW.out.size; simp; omega) _) HB'.out⟩
          all_goals
            have HR : Aside0 (table_Check.scan [] l0 = 70) := ⟨table_Check.stop EQ.out HX.out HB.out⟩
            go_wp2_with (first
              | (at_lookup; refine wpList_look _ rfl _ _ rfl _ _ _ _ _ rfl rfl ((SW.out.alloc _).alloc _) W0.out W1.out ?_)
              | (go_at_call 26; first | (with_reducible refine (C0.out _).mono ?_; rintro e w' ⟨rfl, rfl⟩) | (with_reducible refine (C1.out _).mono ?_; rintro e w' ⟨rfl, rfl⟩) | (with_reducible refine (C2.out _).mono ?_; rintro e w' ⟨rfl, rfl⟩)))
            go_ret
            exact ⟨by rw [HR.out]; rfl, (BW.out.alloc BW.out.size _).alloc (by have := BW.out.size; simp; omega) _⟩
        · have hltz : ¬ (kk : Int) < (l0.length : Int) := by omega
          have hkl : kk = l0.length := by omega
          have HN : Aside0 (table_Check.scan [] l0 = 0) := ⟨by rw [EQ.out, hkl, List.drop_length]; rfl⟩
          clear hkl
          go_wp2
          go_ret
          refine ⟨?_, BW.out⟩
          rw [HN.out]
          rfl
  · cases h
end

/-! ### pacelineref07_Find: function 20 -/
def pacelineref07_Find.l0 : Nat → List (S49) → Int → Int → Int → Option (Int)
  | 0, _, _, _, _ => none
  | k + 1, x0, x1, x2, x7 => if x7 < (x0.length : Int) then (if 0 ≤ x7 then (if ((rd_T49 x0 x7).f0) = x1 then (if ((rd_T49 x0 x7).f1) = x2 then (some x7) else (pacelineref07_Find.l0 k x0 x1 x2 (wrap64 (x7 + 1)))) else (pacelineref07_Find.l0 k x0 x1 x2 (wrap64 (x7 + 1)))) else (none)) else (some (-1))
def pacelineref07_Find.f (k : Nat) (l0 : List (S49)) (a1 : Int) (a2 : Int) : Option (Int) := pacelineref07_Find.l0 k l0 a1 a2 0
theorem pacelineref07_Find.mono_l : ∀ k, (∀ y0 y1 y2 y3, LeO (pacelineref07_Find.l0 k y0 y1 y2 y3) (pacelineref07_Find.l0 (k + 1) y0 y1 y2 y3))
  | 0 => fun _ _ _ _ r h => by simp [pacelineref07_Find.l0] at h
  | k + 1 => by
    have ih0 := pacelineref07_Find.mono_l k
    · intro y0 y1 y2 y3
      unfold pacelineref07_Find.l0
      repeat' first
      | (with_reducible exact ih0 _ _ _ _)
      | (with_reducible exact LeO.refl _)
      | (with_reducible exact LeO.none _)
      | (with_reducible refine LeO.ite ?_ ?_)
      | (with_reducible refine LeO.bind ?_ (fun _ => ?_))
      | exact ih0 _ _ _ _
      | exact LeO.none _
      | refine LeO.ite ?_ ?_
      | refine LeO.bind ?_ (fun _ => ?_)
theorem pacelineref07_Find.mono : ∀ a0 a1 a2 k, LeO (pacelineref07_Find.f k a0 a1 a2) (pacelineref07_Find.f (k + 1) a0 a1 a2) := by
  intro a0 a1 a2 k
  have ih0 := pacelineref07_Find.mono_l k
  unfold pacelineref07_Find.f
  repeat' first
      | (with_reducible exact ih0 _ _ _ _)
      | (with_reducible exact LeO.refl _)
      | (with_reducible exact LeO.none _)
      | (with_reducible refine LeO.ite ?_ ?_)
      | (with_reducible refine LeO.bind ?_ (fun _ => ?_))
      | exact ih0 _ _ _ _
      | exact LeO.none _
      | refine LeO.ite ?_ ?_
      | refine LeO.bind ?_ (fun _ => ?_)
set_option maxHeartbeats 8000000 in
set_option maxRecDepth 100000 in
theorem pacelineref07_Find.calls (k : Nat) (A0 : Option Addr) (c0 : Nat) (l0 : List (S49)) (a1 : Int) (a2 : Int) (r : Int) (w : World) (hr0 : Kd.C k49 w A0 l0.length l0) (hc0 : l0.length ≤ c0) (h : pacelineref07_Find.f k l0 a1 a2 = some r) :
    Calls Try.prog 20 #[.slice A0 l0.length c0, .int .i64 a1, .int .i64 a2] w fun e w' => e = .returned (.int .i64 r) ∧ Drawn0 w w' := by
  have HR0 := Aside0.mk hr0
  have HC0 := Aside0.mk hc0
  clear hr0 hc0
  have H : (pacelineref07_Find.l0 k l0 a1 a2 0) = some r := h
  clear h
  have H' := Aside0.mk H
  clear H
  go_enter Try.func20, Try.ntmps20
  go_wp2
  go_loopg [7] k (fun kq v7 w' => ∃ (x7_1 : Int), v7 = .int .i64 x7_1 ∧ Aside0 (pacelineref07_Find.l0 kq l0 a1 a2 x7_1 = some r) ∧ Aside0 (kq ≤ k) ∧ Drawn0 w w')
  case atStart => exact ⟨(0), (by first | rfl | (simp; done) | (simp [*]; done)), H', ⟨Nat.le_refl _⟩, by repeat (first | exact Drawn0.refl _ | apply Drawn0.step)⟩
  case round =>
    clear H'
    try clear c2
    try clear p2
    obtain ⟨x7_1, rfl, HA, HK1, ⟨m1, rfl⟩⟩ := hrel
    cases gk with
    | zero => exact absurd HA.out (by simp [pacelineref07_Find.l0])
    | succ k1 =>
      have H := HA.out
      clear HA
      simp only [pacelineref07_Find.l0] at H
      by_cases c4 : x7_1 < (l0.length : Int)
      · rw [if_pos c4] at H
        have c4b0 : decide (x7_1 < (l0.length : Int)) = true := decide_eq_true c4
        clear c4
        by_cases c5 : 0 ≤ x7_1
        · rw [if_pos c5] at H
          have c5b0 : decide (0 ≤ x7_1) = true := decide_eq_true c5
          clear c5
          by_cases c6 : ((rd_T49 l0 x7_1).f0) = a1
          · rw [if_pos c6] at H
            have c6b0 : (((rd_T49 l0 x7_1).f0) == a1) = true := beq_iff_eq.mpr c6
            have c6b1 : (((rd_T49 l0 x7_1).f0) != a1) = false := bne_eq_false_iff_eq.mpr c6
            clear c6
            by_cases c7 : ((rd_T49 l0 x7_1).f1) = a2
            · rw [if_pos c7] at H
              have c7b0 : (((rd_T49 l0 x7_1).f1) == a2) = true := beq_iff_eq.mpr c7
              have c7b1 : (((rd_T49 l0 x7_1).f1) != a2) = false := bne_eq_false_iff_eq.mpr c7
              clear c7
              obtain rfl := Option.some.inj H
              have p108 : 0 ≤ (x7_1 : Int) := of_decide_eq_true (by first | (with_reducible assumption) | assumption)
              have q108 : x7_1 < (l0.length : Int) := of_decide_eq_true (by first | (with_reducible assumption) | assumption)
              obtain ⟨ad108, A108_3, c108_3, e108, hx108_0, hx108_1, hx108_2, hx108_3, hl108_3, hi108_3⟩ := at_T49 HR0.out x7_1 p108 q108
              cases e108
              have HR108_3 := Aside0.mk hi108_3
              have HC108_3 := Aside0.mk hl108_3
              clear hi108_3 hl108_3
              replace p108 := eq_true p108
              replace q108 := eq_true q108
              have p109 : 0 ≤ (x7_1 : Int) := of_decide_eq_true (by first | (with_reducible assumption) | assumption)
              have q109 : x7_1 < (l0.length : Int) := of_decide_eq_true (by first | (with_reducible assumption) | assumption)
              obtain ⟨ad109, A109_3, c109_3, e109, hx109_0, hx109_1, hx109_2, hx109_3, hl109_3, hi109_3⟩ := at_T49 HR0.out x7_1 p109 q109
              obtain rfl : ad108 = ad109 := (by injection e109)
              have HR109_3 := Aside0.mk hi109_3
              have HC109_3 := Aside0.mk hl109_3
              clear hi109_3 hl109_3
              replace p109 := eq_true p109
              replace q109 := eq_true q109
              have ea_ := Option.some.inj (hx108_3.symm.trans hx109_3)
              injection ea_ with ea_ en_ ec_
              subst ea_
              subst ec_
              clear en_
              go_wp2
              go_ret
              exact ⟨by first | rfl | (simp; done) | (simp [*]; done), by repeat (first | exact Drawn0.refl _ | apply Drawn0.step)⟩
            · rw [if_neg c7] at H
              have c7b0 : (((rd_T49 l0 x7_1).f1) == a2) = false := beq_eq_false_iff_ne.mpr c7
              have c7b1 : (((rd_T49 l0 x7_1).f1) != a2) = true := bne_iff_ne.mpr c7
              have H' := Aside0.mk H
              clear H
              have p108 : 0 ≤ (x7_1 : Int) := of_decide_eq_true (by first | (with_reducible assumption) | assumption)
              have q108 : x7_1 < (l0.length : Int) := of_decide_eq_true (by first | (with_reducible assumption) | assumption)
              obtain ⟨ad108, A108_3, c108_3, e108, hx108_0, hx108_1, hx108_2, hx108_3, hl108_3, hi108_3⟩ := at_T49 HR0.out x7_1 p108 q108
              cases e108
              have HR108_3 := Aside0.mk hi108_3
              have HC108_3 := Aside0.mk hl108_3
              clear hi108_3 hl108_3
              replace p108 := eq_true p108
              replace q108 := eq_true q108
              have p109 : 0 ≤ (x7_1 : Int) := of_decide_eq_true (by first | (with_reducible assumption) | assumption)
              have q109 : x7_1 < (l0.length : Int) := of_decide_eq_true (by first | (with_reducible assumption) | assumption)
              obtain ⟨ad109, A109_3, c109_3, e109, hx109_0, hx109_1, hx109_2, hx109_3, hl109_3, hi109_3⟩ := at_T49 HR0.out x7_1 p109 q109
              obtain rfl : ad108 = ad109 := (by injection e109)
              have HR109_3 := Aside0.mk hi109_3
              have HC109_3 := Aside0.mk hl109_3
              clear hi109_3 hl109_3
              replace p109 := eq_true p109
              replace q109 := eq_true q109
              have ea_ := Option.some.inj (hx108_3.symm.trans hx109_3)
              injection ea_ with ea_ en_ ec_
              subst ea_
              subst ec_
              clear en_
              go_wp2
              go_roundg k1
              case measure => have := HK1.out; omega
              case rel => exact ⟨(wrap64 (x7_1 + 1)), (by first | rfl | (simp; done) | (simp [*]; done)), H', ⟨by have := HK1.out; omega⟩, by repeat (first | exact Drawn0.refl _ | apply Drawn0.step)⟩
          · rw [if_neg c6] at H
            have c6b0 : (((rd_T49 l0 x7_1).f0) == a1) = false := beq_eq_false_iff_ne.mpr c6
            have c6b1 : (((rd_T49 l0 x7_1).f0) != a1) = true := bne_iff_ne.mpr c6
            have H' := Aside0.mk H
            clear H
            have p108 : 0 ≤ (x7_1 : Int) := of_decide_eq_true (by first | (with_reducible assumption) | assumption)
            have q108 : x7_1 < (l0.length : Int) := of_decide_eq_true (by first | (with_reducible assumption) | assumption)
            obtain ⟨ad108, A108_3, c108_3, e108, hx108_0, hx108_1, hx108_2, hx108_3, hl108_3, hi108_3⟩ := at_T49 HR0.out x7_1 p108 q108
            cases e108
            have HR108_3 := Aside0.mk hi108_3
            have HC108_3 := Aside0.mk hl108_3
            clear hi108_3 hl108_3
            replace p108 := eq_true p108
            replace q108 := eq_true q108
            go_wp2
            go_roundg k1
            case measure => have := HK1.out; omega
            case rel => exact ⟨(wrap64 (x7_1 + 1)), (by first | rfl | (simp; done) | (simp [*]; done)), H', ⟨by have := HK1.out; omega⟩, by repeat (first | exact Drawn0.refl _ | apply Drawn0.step)⟩
        · rw [if_neg c5] at H
          exact absurd H (by simp)
      · rw [if_neg c4] at H
        have c4b0 : decide (x7_1 < (l0.length : Int)) = false := decide_eq_false c4
        clear c4
        obtain rfl := Option.some.inj H
        go_wp2
        go_ret
        exact ⟨by first | rfl | (simp; done) | (simp [*]; done), by repeat (first | exact Drawn0.refl _ | apply Drawn0.step)⟩

/-! ### pacelineref07_in: function 34 -/
def pacelineref07_in.f (a0 : Int) (a1 : Int) : Option (Bool) := if a0 ≥ 0 then (some (decide (a0 < a1))) else (some false)
set_option maxHeartbeats 8000000 in
set_option maxRecDepth 100000 in
theorem pacelineref07_in.calls (a0 : Int) (a1 : Int) (r : Bool) (w : World) (h : pacelineref07_in.f a0 a1 = some r) :
    Calls Try.prog 34 #[.int .i64 a0, .int .i64 a1] w fun e w' => e = .returned (.bool r) ∧ Drawn0 w w' := by
  have H : (if a0 ≥ 0 then (some (decide (a0 < a1))) else (some false)) = some r := h
  clear h
  by_cases c3 : a0 ≥ 0
  · rw [if_pos c3] at H
    have c3b0 : decide (0 ≤ a0) = true := decide_eq_true c3
    clear c3
    obtain rfl := Option.some.inj H
    go_enter Try.func34, Try.ntmps34
    go_wp2
    go_ret
    exact ⟨by first | rfl | (simp; done) | (simp [*]; done), by repeat (first | exact Drawn0.refl _ | apply Drawn0.step)⟩
  · rw [if_neg c3] at H
    have c3b0 : decide (0 ≤ a0) = false := decide_eq_false c3
    clear c3
    obtain rfl := Option.some.inj H
    go_enter Try.func34, Try.ntmps34
    go_wp2
    go_ret
    exact ⟨by first | rfl | (simp; done) | (simp [*]; done), by repeat (first | exact Drawn0.refl _ | apply Drawn0.step)⟩

end Go.Proofs.Ytccidadepjcjjaa.PTableStays
