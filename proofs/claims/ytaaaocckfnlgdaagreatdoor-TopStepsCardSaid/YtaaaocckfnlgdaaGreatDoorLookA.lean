/- Look: who asked to go to a time, and is constrained, with nothing that waits. -/
import Derived.Test.YtaaaocckfnlgdaaGreatDoorRtiC
import Derived.Test.YtaaaocckfnlgdaaGreatDoorLook
namespace Go.Proofs.YtaaaocckfnlgdaaGreatDoorT
open Go.RowKit Go.Proofs.YtaaaocckfnlgdaaGreatDoorW.PrintWords Go.Proofs.YtaaaocckfnlgdaaGreatDoorW.PrintLast Go.Proofs.YtaaaocckfnlgdaaGreatDoorW.PrintMore Go.Proofs.YtaaaocckfnlgdaaGreatDoorU Go.Proofs.YtaaaocckfnlgdaaGreatDoor.PBase
set_option maxRecDepth 100000
set_option linter.unusedVariables false
set_option linter.unusedSimpArgs false
/-- A store into a block that was not there when the table lay already. -/
theorem Rt.far {w W : World} {d : Ad} {ps ss ps0 ss0 : List Int} {m m0 : Nat → TM} (H : Rt W d ps ss m) (H0 : Rt w d ps0 ss0 m0) {b0 : Nat} (hb : w.heap.size ≤ b0) (k : Nat) (v : Value) : Rt (W.setCell ⟨b0, k, none⟩ v) d ps ss m :=
  { H with
    blk := blk_far H.blk (p := ⟨b0, k, none⟩) (Nat.ne_of_lt (Nat.lt_of_lt_of_le (blk_lt H0.blk) hb)) v
    tab := { H.tab with
      blk := blk_far H.tab.blk (p := ⟨b0, k, none⟩) (Nat.ne_of_lt (Nat.lt_of_lt_of_le (blk_lt H0.tab.blk) hb)) v
      reads := fun j x hx => (But.set (S := fun b => b = b0) (But.refl _ W) (p := ⟨b0, k, none⟩) rfl v).cell (H.tab.reads j x hx) (Nat.ne_of_lt (Nat.lt_of_lt_of_le (World.block_lt_of_cell? w ⟨d.ta, j, none⟩ (H0.tab.reads j x hx)) hb)) }
    que := fun i hi => blk_far (H.que i hi) (p := ⟨b0, k, none⟩) (Nat.ne_of_lt (Nat.lt_of_lt_of_le (blk_lt (H0.que i hi)) hb)) v }
theorem But.new {S : Nat → Prop} {w W : World} (h : But S w W) {b0 : Nat} (hb : w.heap.size ≤ b0) (k : Nat) (v : Value) : But S w (W.setCell ⟨b0, k, none⟩ v) :=
  ⟨h.os, h.tape, h.output, by have := h.size; simpa [World.setCell] using this, fun i hi hn => (Below.heap_setCell W ⟨b0, k, none⟩ v i (by show i ≠ b0; omega)).trans (h.block i hi hn)⟩
/-- What Look answers. -/
def given (is : Bool) (t : Int) : Value := .tuple #[.agg #[.slice none 0 0, .slice none 0 0, .bool is, .int .i64 t], .int .i64 0]

set_option maxHeartbeats 4000000 in
theorem look0_no {w : World} {d : Ad} {ps ss : List Int} {m : Nat → TM} (H : Rt w d ps ss m) (hi : (m 0).is = true) (hk : (m 0).kind = 1) (hc : (m 0).con = true) (b : Int) (hb : lbts_Lbts.f 9 (memL m 8) 0 = some b) (hn : ¬ (m 0).ask < b) :
    Calls Tryz.prog 8 #[.pointer (some ⟨d.g, 0, none⟩), .int .i64 0] w fun e w' => e = .returned (given false (m 0).time) ∧ Rt w' d ps ss m ∧ But (fun k => k = d.g ∨ k = d.bt) w w' := by
  have H0 := Aside0.mk (H.below (below_alloc (Below.refl _ w) (.cells #[.slice none 0 0, .slice none 0 0, .bool false, .int .i64 0] 29 (0, 0))))
  have CB := Aside0.mk (by0 H0.out hi)
  have HK := Aside0.mk (And.intro hk (And.intro hc (And.intro hb hn)))
  have HH := Aside0.mk H
  have N0 := Aside0.mk (blk_new w (.cells #[.slice none 0 0, .slice none 0 0, .bool false, .int .i64 0] 29 (0, 0)))
  have CD := Aside0.mk (fun W => by have h := decide_one (m 0).ask (m 0).time b W; rw [if_neg hn] at h; exact h)
  clear H hi hk hc hb hn
  go_enter Tryz.func8, Tryz.ntmps8
  go_upto_region 5 with (go_at_call 18; (with_reducible refine CB.out.mono ?_); rintro e w1 ⟨rfl, hb⟩; have B1 := Aside0.mk (below_step (below_alloc (Below.refl _ w) _) hb); have N1 := Aside0.mk (blk_below N0.out hb); have R1 := Aside0.mk (H0.out.below hb); have z0 := R1.out.plain0; have z1 := R1.out.time0; clear hb)
  go_region_held3 (fun w' => w'.cell? ⟨d.g, 10, none⟩ = some (.slice none 0 0) ∧ w'.cell? ⟨d.g, 4, none⟩ = some (.int .i64 (m 0).time)) (go_keep) (fail)
  have R2 := Aside0.mk (show Rt (w1.alloc (.cells #[.slice none 0 0, .slice none 0 0, .bool false, .int .i64 (m 0).time] 29 (0, 0))).drew d ps ss m from (R1.out.below (below_alloc (Below.refl _ w1) _)).drew)
  have N2 := Aside0.mk (show (w1.alloc (.cells #[.slice none 0 0, .slice none 0 0, .bool false, .int .i64 (m 0).time] 29 (0, 0))).drew.heap[w.heap.size]? = some (.cells #[.slice none 0 0, .slice none 0 0, .bool false, .int .i64 0] 29 (0, 0)) from blk_alloc N1.out _)
  have M2 := Aside0.mk (show (w1.alloc (.cells #[.slice none 0 0, .slice none 0 0, .bool false, .int .i64 (m 0).time] 29 (0, 0))).drew.heap[w1.heap.size]? = some (.cells #[.slice none 0 0, .slice none 0 0, .bool false, .int .i64 (m 0).time] 29 (0, 0)) from blk_new w1 _)
  have B2 := Aside0.mk (show Below w.heap.size w (w1.alloc (.cells #[.slice none 0 0, .slice none 0 0, .bool false, .int .i64 (m 0).time] 29 (0, 0))).drew from below_drew (below_alloc B1.out _))
  have NE := Aside0.mk (show d.g < w.heap.size ∧ w.heap.size < w1.heap.size from ⟨blk_lt HH.out.blk, blk_lt N1.out⟩)
  clear B1 N1 R1 N0 CB z0 z1
  generalize (w1.alloc (.cells #[.slice none 0 0, .slice none 0 0, .bool false, .int .i64 (m 0).time] 29 (0, 0))).drew = W2 at R2 N2 M2 B2 ⊢
  generalize w1.heap.size = g8 at M2 NE ⊢
  have z2 := R2.out.plain0
  have zf := R2.out.fz 10
  go_upto_region 7 with (fail)
  have R3 := Aside0.mk (R2.out.set 10 (.slice none 0 0) (m' := m) rfl)
  have N3 := Aside0.mk (blk_far N2.out (p := ⟨d.g, 10, none⟩) (by have := NE.out; show w.heap.size ≠ d.g; omega) (.slice none 0 0))
  have M3 := Aside0.mk (blk_far M2.out (p := ⟨d.g, 10, none⟩) (by have := NE.out; show g8 ≠ d.g; omega) (.slice none 0 0))
  have B3 := Aside0.mk ((But.of_below B2.out).set (S := fun k => k = d.g ∨ k = d.bt) (p := ⟨d.g, 10, none⟩) (Or.inl rfl) (.slice none 0 0))
  clear R2 N2 M2 B2 z2 zf
  generalize (W2.setCell ⟨d.g, 10, none⟩ (.slice none 0 0)) = W3 at R3 N3 M3 B3 ⊢
  have y1 := (R3.out.kind0).trans (by rw [HK.out.1])
  have y2 := (R3.out.con0).trans (by rw [HK.out.2.1])
  go_wp2_with (first | (go_at_call 21; (with_reducible refine (bound_calls R3.out _ _ HK.out.2.2.1).mono ?_); rintro e w4 ⟨rfl, hb⟩; have R4 := Aside0.mk (R3.out.below hb); have N4 := Aside0.mk (blk_below N3.out hb); have M4 := Aside0.mk (blk_below M3.out hb); have B4 := Aside0.mk (B3.out.then_ hb); have y3 := R4.out.q0; clear hb y1 y2) | (go_at_call 22; (with_reducible refine (list_none _ _ _ (R4.out.que 0 (by decide))).mono ?_); rintro e w5 ⟨rfl, rfl⟩))
  go_loopw [10, 12, 62] (fun v10 v12 v62 wr => v10 = .slice none 0 0 ∧ v62 = .int .i64 0 ∧ w4 = wr) (fun _ _ _ _ => 0)
  case atStart => exact ⟨rfl, rfl, rfl⟩
  case round =>
    obtain ⟨rfl, rfl, rfl⟩ := hrel
    have x1 := (R4.out.kind0).trans (by rw [HK.out.1])
    have x2 := R4.out.ask0
    have x3 := R4.out.time0
    have KX := Aside0.mk (And.intro x1 (And.intro x2 x3))
    have KB := Aside0.mk (below_drew (Below.refl w4.heap.size w4))
    go_upto_region 18 with (fail)
    go_region_held3 (fun w' => w'.cell? ⟨d.g, 6, none⟩ = some (.int .i64 1) ∧ w'.cell? ⟨d.g, 7, none⟩ = some (.int .i64 (m 0).ask) ∧ w'.cell? ⟨d.g, 4, none⟩ = some (.int .i64 (m 0).time)) (go_keep) (first | (go_at_call 23; (with_reducible refine (CD.out _).mono ?_); rintro e w6 ⟨rfl, hb⟩; have E6 := Aside0.mk (below_step KB.out hb); have y5 := pw_cell_below hb KX.out.1; have y6 := pw_cell_below hb KX.out.2.1; have y7 := pw_cell_below hb KX.out.2.2; clear hb))
    have R6 := Aside0.mk (R4.out.below E6.out)
    have N6 := Aside0.mk (blk_below N4.out E6.out)
    have M6 := Aside0.mk (blk_below M4.out E6.out)
    have B6 := Aside0.mk (B4.out.then_ E6.out)
    have m0 := (blk_cell M6.out 0).trans rfl
    have m1 := (blk_cell M6.out 1).trans rfl
    have m2 := (blk_cell M6.out 2).trans rfl
    have m3 := (blk_cell M6.out 3).trans rfl
    have n0 := (blk_cell N6.out 0).trans rfl
    have n1 := (blk_cell N6.out 1).trans rfl
    have n2 := (blk_cell N6.out 2).trans rfl
    have n3 := (blk_cell N6.out 3).trans rfl
    have f0 := blk_frozen N6.out 0
    have f1 := blk_frozen N6.out 1
    have f2 := blk_frozen N6.out 2
    have f3 := blk_frozen N6.out 3
    go_wp2
    have q0 := blk_put N6.out 0 (.slice none 0 0) rfl
    have q1 := blk_put q0 1 (.slice none 0 0) rfl
    have q2 := blk_put q1 2 (.bool false) rfl
    have q3 := blk_put q2 3 (.int .i64 (m 0).time) rfl
    refine bodyPost_ret (results_list (rs := [.cell 4 29, .tmp 5]) rfl (by simp) (.cell w.heap.size 29 _ (0, 0) _ rfl q3 Tryz.underlying29 rfl (by kernel_rfl) (.tmp .nil))) rfl ?_
    exact ⟨rfl, (((R6.out.far HH.out (Nat.le_refl _) 0 _).far HH.out (Nat.le_refl _) 1 _).far HH.out (Nat.le_refl _) 2 _).far HH.out (Nat.le_refl _) 3 _, (((B6.out.new (Nat.le_refl _) 0 _).new (Nat.le_refl _) 1 _).new (Nat.le_refl _) 2 _).new (Nat.le_refl _) 3 _⟩

set_option maxHeartbeats 4000000 in
theorem look0_yes {w : World} {d : Ad} {ps ss : List Int} {m : Nat → TM} (H : Rt w d ps ss m) (hi : (m 0).is = true) (hk : (m 0).kind = 1) (hc : (m 0).con = true) (b : Int) (hb : lbts_Lbts.f 9 (memL m 8) 0 = some b) (hn : (m 0).ask < b) :
    Calls Tryz.prog 8 #[.pointer (some ⟨d.g, 0, none⟩), .int .i64 0] w fun e w' => e = .returned (given true (m 0).ask) ∧ Rt w' d ps ss (mset m 0 { m 0 with time := (m 0).ask, kind := 0, ask := 0 }) ∧ But (fun k => k = d.g ∨ k = d.bt) w w' := by
  have H0 := Aside0.mk (H.below (below_alloc (Below.refl _ w) (.cells #[.slice none 0 0, .slice none 0 0, .bool false, .int .i64 0] 29 (0, 0))))
  have CB := Aside0.mk (by0 H0.out hi)
  have HK := Aside0.mk (And.intro hk (And.intro hc (And.intro hb hn)))
  have HH := Aside0.mk H
  have N0 := Aside0.mk (blk_new w (.cells #[.slice none 0 0, .slice none 0 0, .bool false, .int .i64 0] 29 (0, 0)))
  have CD := Aside0.mk (fun W => by have h := decide_one (m 0).ask (m 0).time b W; rw [if_pos hn] at h; exact h)
  clear H hi hk hc hb hn
  go_enter Tryz.func8, Tryz.ntmps8
  go_upto_region 5 with (go_at_call 18; (with_reducible refine CB.out.mono ?_); rintro e w1 ⟨rfl, hb⟩; have B1 := Aside0.mk (below_step (below_alloc (Below.refl _ w) _) hb); have N1 := Aside0.mk (blk_below N0.out hb); have R1 := Aside0.mk (H0.out.below hb); have z0 := R1.out.plain0; have z1 := R1.out.time0; clear hb)
  go_region_held3 (fun w' => w'.cell? ⟨d.g, 10, none⟩ = some (.slice none 0 0) ∧ w'.cell? ⟨d.g, 4, none⟩ = some (.int .i64 (m 0).time)) (go_keep) (fail)
  have R2 := Aside0.mk (show Rt (w1.alloc (.cells #[.slice none 0 0, .slice none 0 0, .bool false, .int .i64 (m 0).time] 29 (0, 0))).drew d ps ss m from (R1.out.below (below_alloc (Below.refl _ w1) _)).drew)
  have N2 := Aside0.mk (show (w1.alloc (.cells #[.slice none 0 0, .slice none 0 0, .bool false, .int .i64 (m 0).time] 29 (0, 0))).drew.heap[w.heap.size]? = some (.cells #[.slice none 0 0, .slice none 0 0, .bool false, .int .i64 0] 29 (0, 0)) from blk_alloc N1.out _)
  have M2 := Aside0.mk (show (w1.alloc (.cells #[.slice none 0 0, .slice none 0 0, .bool false, .int .i64 (m 0).time] 29 (0, 0))).drew.heap[w1.heap.size]? = some (.cells #[.slice none 0 0, .slice none 0 0, .bool false, .int .i64 (m 0).time] 29 (0, 0)) from blk_new w1 _)
  have B2 := Aside0.mk (show Below w.heap.size w (w1.alloc (.cells #[.slice none 0 0, .slice none 0 0, .bool false, .int .i64 (m 0).time] 29 (0, 0))).drew from below_drew (below_alloc B1.out _))
  have NE := Aside0.mk (show d.g < w.heap.size ∧ w.heap.size < w1.heap.size from ⟨blk_lt HH.out.blk, blk_lt N1.out⟩)
  clear B1 N1 R1 N0 CB z0 z1
  generalize (w1.alloc (.cells #[.slice none 0 0, .slice none 0 0, .bool false, .int .i64 (m 0).time] 29 (0, 0))).drew = W2 at R2 N2 M2 B2 ⊢
  generalize w1.heap.size = g8 at M2 NE ⊢
  have z2 := R2.out.plain0
  have zf := R2.out.fz 10
  go_upto_region 7 with (fail)
  have R3 := Aside0.mk (R2.out.set 10 (.slice none 0 0) (m' := m) rfl)
  have N3 := Aside0.mk (blk_far N2.out (p := ⟨d.g, 10, none⟩) (by have := NE.out; show w.heap.size ≠ d.g; omega) (.slice none 0 0))
  have M3 := Aside0.mk (blk_far M2.out (p := ⟨d.g, 10, none⟩) (by have := NE.out; show g8 ≠ d.g; omega) (.slice none 0 0))
  have B3 := Aside0.mk ((But.of_below B2.out).set (S := fun k => k = d.g ∨ k = d.bt) (p := ⟨d.g, 10, none⟩) (Or.inl rfl) (.slice none 0 0))
  clear R2 N2 M2 B2 z2 zf
  generalize (W2.setCell ⟨d.g, 10, none⟩ (.slice none 0 0)) = W3 at R3 N3 M3 B3 ⊢
  have y1 := (R3.out.kind0).trans (by rw [HK.out.1])
  have y2 := (R3.out.con0).trans (by rw [HK.out.2.1])
  go_wp2_with (first | (go_at_call 21; (with_reducible refine (bound_calls R3.out _ _ HK.out.2.2.1).mono ?_); rintro e w4 ⟨rfl, hb⟩; have R4 := Aside0.mk (R3.out.below hb); have N4 := Aside0.mk (blk_below N3.out hb); have M4 := Aside0.mk (blk_below M3.out hb); have B4 := Aside0.mk (B3.out.then_ hb); have y3 := R4.out.q0; clear hb y1 y2) | (go_at_call 22; (with_reducible refine (list_none _ _ _ (R4.out.que 0 (by decide))).mono ?_); rintro e w5 ⟨rfl, rfl⟩))
  go_loopw [10, 12, 62] (fun v10 v12 v62 wr => v10 = .slice none 0 0 ∧ v62 = .int .i64 0 ∧ w4 = wr) (fun _ _ _ _ => 0)
  case atStart => exact ⟨rfl, rfl, rfl⟩
  case round =>
    obtain ⟨rfl, rfl, rfl⟩ := hrel
    have x1 := (R4.out.kind0).trans (by rw [HK.out.1])
    have x2 := R4.out.ask0
    have x3 := R4.out.time0
    have KX := Aside0.mk (And.intro x1 (And.intro x2 x3))
    have KB := Aside0.mk (below_drew (Below.refl w4.heap.size w4))
    go_upto_region 18 with (fail)
    go_region_held3 (fun w' => w'.cell? ⟨d.g, 6, none⟩ = some (.int .i64 1) ∧ w'.cell? ⟨d.g, 7, none⟩ = some (.int .i64 (m 0).ask) ∧ w'.cell? ⟨d.g, 4, none⟩ = some (.int .i64 (m 0).time)) (go_keep) (first | (go_at_call 23; (with_reducible refine (CD.out _).mono ?_); rintro e w6 ⟨rfl, hb⟩; have E6 := Aside0.mk (below_step KB.out hb); have y5 := pw_cell_below hb KX.out.1; have y6 := pw_cell_below hb KX.out.2.1; have y7 := pw_cell_below hb KX.out.2.2; clear hb))
    have R6 := Aside0.mk (R4.out.below E6.out)
    have N6 := Aside0.mk (blk_below N4.out E6.out)
    have M6 := Aside0.mk (blk_below M4.out E6.out)
    have B6 := Aside0.mk (B4.out.then_ E6.out)
    have e1 : g8 ≠ d.g := by have := NE.out; omega
    have e2 := e1.symm
    have e3 : w.heap.size ≠ d.g := by have := NE.out; omega
    have e4 := e3.symm
    have e5 : g8 ≠ w.heap.size := by have := NE.out; omega
    have e6 := e5.symm
    have m0 := (blk_cell M6.out 0).trans rfl
    have m1 := (blk_cell M6.out 1).trans rfl
    have m2 := (blk_cell M6.out 2).trans rfl
    have m3 := (blk_cell M6.out 3).trans rfl
    have n0 := (blk_cell N6.out 0).trans rfl
    have n1 := (blk_cell N6.out 1).trans rfl
    have n2 := (blk_cell N6.out 2).trans rfl
    have n3 := (blk_cell N6.out 3).trans rfl
    have f0 := blk_frozen N6.out 0
    have f1 := blk_frozen N6.out 1
    have f2 := blk_frozen N6.out 2
    have f3 := blk_frozen N6.out 3
    have g2 := blk_frozen M6.out 2
    have g3 := blk_frozen M6.out 3
    have h1 := R6.out.fz 4
    have h2 := R6.out.fz 6
    have h3 := R6.out.fz 7
    go_wp2
    go_loopw [16, 17, 96] (fun v16 v17 v96 wr => v96 = .int .i64 0 ∧ w6 = wr) (fun _ _ _ _ => 0)
    case atStart => exact ⟨rfl, rfl⟩
    case round =>
      obtain ⟨rfl, rfl⟩ := hrel
      go_wp2
      have P0 := blk_far (blk_far (blk_far (blk_far (blk_far N6.out (p := ⟨g8, 2, none⟩) e6 (.bool true)) (p := ⟨g8, 3, none⟩) e6 (.int .i64 (m 0).ask)) (p := ⟨d.g, 4, none⟩) e3 (.int .i64 (m 0).ask)) (p := ⟨d.g, 6, none⟩) e3 (.int .i64 0)) (p := ⟨d.g, 7, none⟩) e3 (.int .i64 0)
      have q0 := blk_put P0 0 (.slice none 0 0) rfl
      have q1 := blk_put q0 1 (.slice none 0 0) rfl
      have q2 := blk_put q1 2 (.bool true) rfl
      have q3 := blk_put q2 3 (.int .i64 (m 0).ask) rfl
      refine bodyPost_ret (results_list (rs := [.cell 4 29, .tmp 5]) rfl (by simp) (.cell w.heap.size 29 _ (0, 0) _ rfl q3 Tryz.underlying29 rfl (by kernel_rfl) (.tmp .nil))) rfl ?_
      have L8 : w.heap.size ≤ g8 := by have := NE.out; omega
      exact ⟨rfl, ((((((((R6.out.far HH.out L8 2 _).far HH.out L8 3 _).set 4 _ (m' := mset m 0 { m 0 with time := (m 0).ask }) rfl).set 6 _ (m' := mset m 0 { m 0 with time := (m 0).ask, kind := 0 }) rfl).set 7 _ (m' := mset m 0 { m 0 with time := (m 0).ask, kind := 0, ask := 0 }) rfl).far HH.out (Nat.le_refl _) 0 _).far HH.out (Nat.le_refl _) 1 _).far HH.out (Nat.le_refl _) 2 _).far HH.out (Nat.le_refl _) 3 _, ((((((((B6.out.new L8 2 _).new L8 3 _).set (Or.inl rfl) _).set (Or.inl rfl) _).set (Or.inl rfl) _).new (Nat.le_refl _) 0 _).new (Nat.le_refl _) 1 _).new (Nat.le_refl _) 2 _).new (Nat.le_refl _) 3 _⟩

set_option maxHeartbeats 4000000 in
theorem look1_no {w : World} {d : Ad} {ps ss : List Int} {m : Nat → TM} (H : Rt w d ps ss m) (hi : (m 1).is = true) (hk : (m 1).kind = 1) (hc : (m 1).con = true) (b : Int) (hb : lbts_Lbts.f 9 (memL m 8) 1 = some b) (hn : ¬ (m 1).ask < b) :
    Calls Tryz.prog 8 #[.pointer (some ⟨d.g, 0, none⟩), .int .i64 1] w fun e w' => e = .returned (given false (m 1).time) ∧ Rt w' d ps ss m ∧ But (fun k => k = d.g ∨ k = d.bt) w w' := by
  have H0 := Aside0.mk (H.below (below_alloc (Below.refl _ w) (.cells #[.slice none 0 0, .slice none 0 0, .bool false, .int .i64 0] 29 (0, 0))))
  have CB := Aside0.mk (by1 H0.out hi)
  have HK := Aside0.mk (And.intro hk (And.intro hc (And.intro hb hn)))
  have HH := Aside0.mk H
  have N0 := Aside0.mk (blk_new w (.cells #[.slice none 0 0, .slice none 0 0, .bool false, .int .i64 0] 29 (0, 0)))
  have CD := Aside0.mk (fun W => by have h := decide_one (m 1).ask (m 1).time b W; rw [if_neg hn] at h; exact h)
  clear H hi hk hc hb hn
  go_enter Tryz.func8, Tryz.ntmps8
  go_upto_region 5 with (go_at_call 18; (with_reducible refine CB.out.mono ?_); rintro e w1 ⟨rfl, hb⟩; have B1 := Aside0.mk (below_step (below_alloc (Below.refl _ w) _) hb); have N1 := Aside0.mk (blk_below N0.out hb); have R1 := Aside0.mk (H0.out.below hb); have z0 := R1.out.plain1; have z1 := R1.out.time1; clear hb)
  go_region_held3 (fun w' => w'.cell? ⟨d.g, 20, none⟩ = some (.slice none 0 0) ∧ w'.cell? ⟨d.g, 14, none⟩ = some (.int .i64 (m 1).time)) (go_keep) (fail)
  have R2 := Aside0.mk (show Rt (w1.alloc (.cells #[.slice none 0 0, .slice none 0 0, .bool false, .int .i64 (m 1).time] 29 (0, 0))).drew d ps ss m from (R1.out.below (below_alloc (Below.refl _ w1) _)).drew)
  have N2 := Aside0.mk (show (w1.alloc (.cells #[.slice none 0 0, .slice none 0 0, .bool false, .int .i64 (m 1).time] 29 (0, 0))).drew.heap[w.heap.size]? = some (.cells #[.slice none 0 0, .slice none 0 0, .bool false, .int .i64 0] 29 (0, 0)) from blk_alloc N1.out _)
  have M2 := Aside0.mk (show (w1.alloc (.cells #[.slice none 0 0, .slice none 0 0, .bool false, .int .i64 (m 1).time] 29 (0, 0))).drew.heap[w1.heap.size]? = some (.cells #[.slice none 0 0, .slice none 0 0, .bool false, .int .i64 (m 1).time] 29 (0, 0)) from blk_new w1 _)
  have B2 := Aside0.mk (show Below w.heap.size w (w1.alloc (.cells #[.slice none 0 0, .slice none 0 0, .bool false, .int .i64 (m 1).time] 29 (0, 0))).drew from below_drew (below_alloc B1.out _))
  have NE := Aside0.mk (show d.g < w.heap.size ∧ w.heap.size < w1.heap.size from ⟨blk_lt HH.out.blk, blk_lt N1.out⟩)
  clear B1 N1 R1 N0 CB z0 z1
  generalize (w1.alloc (.cells #[.slice none 0 0, .slice none 0 0, .bool false, .int .i64 (m 1).time] 29 (0, 0))).drew = W2 at R2 N2 M2 B2 ⊢
  generalize w1.heap.size = g8 at M2 NE ⊢
  have z2 := R2.out.plain1
  have zf := R2.out.fz 20
  go_upto_region 7 with (fail)
  have R3 := Aside0.mk (R2.out.set 20 (.slice none 0 0) (m' := m) rfl)
  have N3 := Aside0.mk (blk_far N2.out (p := ⟨d.g, 20, none⟩) (by have := NE.out; show w.heap.size ≠ d.g; omega) (.slice none 0 0))
  have M3 := Aside0.mk (blk_far M2.out (p := ⟨d.g, 20, none⟩) (by have := NE.out; show g8 ≠ d.g; omega) (.slice none 0 0))
  have B3 := Aside0.mk ((But.of_below B2.out).set (S := fun k => k = d.g ∨ k = d.bt) (p := ⟨d.g, 20, none⟩) (Or.inl rfl) (.slice none 0 0))
  clear R2 N2 M2 B2 z2 zf
  generalize (W2.setCell ⟨d.g, 20, none⟩ (.slice none 0 0)) = W3 at R3 N3 M3 B3 ⊢
  have y1 := (R3.out.kind1).trans (by rw [HK.out.1])
  have y2 := (R3.out.con1).trans (by rw [HK.out.2.1])
  go_wp2_with (first | (go_at_call 21; (with_reducible refine (bound_calls R3.out _ _ HK.out.2.2.1).mono ?_); rintro e w4 ⟨rfl, hb⟩; have R4 := Aside0.mk (R3.out.below hb); have N4 := Aside0.mk (blk_below N3.out hb); have M4 := Aside0.mk (blk_below M3.out hb); have B4 := Aside0.mk (B3.out.then_ hb); have y3 := R4.out.q1; clear hb y1 y2) | (go_at_call 22; (with_reducible refine (list_none _ _ _ (R4.out.que 1 (by decide))).mono ?_); rintro e w5 ⟨rfl, rfl⟩))
  go_loopw [10, 12, 62] (fun v10 v12 v62 wr => v10 = .slice none 0 0 ∧ v62 = .int .i64 0 ∧ w4 = wr) (fun _ _ _ _ => 0)
  case atStart => exact ⟨rfl, rfl, rfl⟩
  case round =>
    obtain ⟨rfl, rfl, rfl⟩ := hrel
    have x1 := (R4.out.kind1).trans (by rw [HK.out.1])
    have x2 := R4.out.ask1
    have x3 := R4.out.time1
    have KX := Aside0.mk (And.intro x1 (And.intro x2 x3))
    have KB := Aside0.mk (below_drew (Below.refl w4.heap.size w4))
    go_upto_region 18 with (fail)
    go_region_held3 (fun w' => w'.cell? ⟨d.g, 16, none⟩ = some (.int .i64 1) ∧ w'.cell? ⟨d.g, 17, none⟩ = some (.int .i64 (m 1).ask) ∧ w'.cell? ⟨d.g, 14, none⟩ = some (.int .i64 (m 1).time)) (go_keep) (first | (go_at_call 23; (with_reducible refine (CD.out _).mono ?_); rintro e w6 ⟨rfl, hb⟩; have E6 := Aside0.mk (below_step KB.out hb); have y5 := pw_cell_below hb KX.out.1; have y6 := pw_cell_below hb KX.out.2.1; have y7 := pw_cell_below hb KX.out.2.2; clear hb))
    have R6 := Aside0.mk (R4.out.below E6.out)
    have N6 := Aside0.mk (blk_below N4.out E6.out)
    have M6 := Aside0.mk (blk_below M4.out E6.out)
    have B6 := Aside0.mk (B4.out.then_ E6.out)
    have m0 := (blk_cell M6.out 0).trans rfl
    have m1 := (blk_cell M6.out 1).trans rfl
    have m2 := (blk_cell M6.out 2).trans rfl
    have m3 := (blk_cell M6.out 3).trans rfl
    have n0 := (blk_cell N6.out 0).trans rfl
    have n1 := (blk_cell N6.out 1).trans rfl
    have n2 := (blk_cell N6.out 2).trans rfl
    have n3 := (blk_cell N6.out 3).trans rfl
    have f0 := blk_frozen N6.out 0
    have f1 := blk_frozen N6.out 1
    have f2 := blk_frozen N6.out 2
    have f3 := blk_frozen N6.out 3
    go_wp2
    have q0 := blk_put N6.out 0 (.slice none 0 0) rfl
    have q1 := blk_put q0 1 (.slice none 0 0) rfl
    have q2 := blk_put q1 2 (.bool false) rfl
    have q3 := blk_put q2 3 (.int .i64 (m 1).time) rfl
    refine bodyPost_ret (results_list (rs := [.cell 4 29, .tmp 5]) rfl (by simp) (.cell w.heap.size 29 _ (0, 0) _ rfl q3 Tryz.underlying29 rfl (by kernel_rfl) (.tmp .nil))) rfl ?_
    exact ⟨rfl, (((R6.out.far HH.out (Nat.le_refl _) 0 _).far HH.out (Nat.le_refl _) 1 _).far HH.out (Nat.le_refl _) 2 _).far HH.out (Nat.le_refl _) 3 _, (((B6.out.new (Nat.le_refl _) 0 _).new (Nat.le_refl _) 1 _).new (Nat.le_refl _) 2 _).new (Nat.le_refl _) 3 _⟩

set_option maxHeartbeats 4000000 in
theorem look1_yes {w : World} {d : Ad} {ps ss : List Int} {m : Nat → TM} (H : Rt w d ps ss m) (hi : (m 1).is = true) (hk : (m 1).kind = 1) (hc : (m 1).con = true) (b : Int) (hb : lbts_Lbts.f 9 (memL m 8) 1 = some b) (hn : (m 1).ask < b) :
    Calls Tryz.prog 8 #[.pointer (some ⟨d.g, 0, none⟩), .int .i64 1] w fun e w' => e = .returned (given true (m 1).ask) ∧ Rt w' d ps ss (mset m 1 { m 1 with time := (m 1).ask, kind := 0, ask := 0 }) ∧ But (fun k => k = d.g ∨ k = d.bt) w w' := by
  have H0 := Aside0.mk (H.below (below_alloc (Below.refl _ w) (.cells #[.slice none 0 0, .slice none 0 0, .bool false, .int .i64 0] 29 (0, 0))))
  have CB := Aside0.mk (by1 H0.out hi)
  have HK := Aside0.mk (And.intro hk (And.intro hc (And.intro hb hn)))
  have HH := Aside0.mk H
  have N0 := Aside0.mk (blk_new w (.cells #[.slice none 0 0, .slice none 0 0, .bool false, .int .i64 0] 29 (0, 0)))
  have CD := Aside0.mk (fun W => by have h := decide_one (m 1).ask (m 1).time b W; rw [if_pos hn] at h; exact h)
  clear H hi hk hc hb hn
  go_enter Tryz.func8, Tryz.ntmps8
  go_upto_region 5 with (go_at_call 18; (with_reducible refine CB.out.mono ?_); rintro e w1 ⟨rfl, hb⟩; have B1 := Aside0.mk (below_step (below_alloc (Below.refl _ w) _) hb); have N1 := Aside0.mk (blk_below N0.out hb); have R1 := Aside0.mk (H0.out.below hb); have z0 := R1.out.plain1; have z1 := R1.out.time1; clear hb)
  go_region_held3 (fun w' => w'.cell? ⟨d.g, 20, none⟩ = some (.slice none 0 0) ∧ w'.cell? ⟨d.g, 14, none⟩ = some (.int .i64 (m 1).time)) (go_keep) (fail)
  have R2 := Aside0.mk (show Rt (w1.alloc (.cells #[.slice none 0 0, .slice none 0 0, .bool false, .int .i64 (m 1).time] 29 (0, 0))).drew d ps ss m from (R1.out.below (below_alloc (Below.refl _ w1) _)).drew)
  have N2 := Aside0.mk (show (w1.alloc (.cells #[.slice none 0 0, .slice none 0 0, .bool false, .int .i64 (m 1).time] 29 (0, 0))).drew.heap[w.heap.size]? = some (.cells #[.slice none 0 0, .slice none 0 0, .bool false, .int .i64 0] 29 (0, 0)) from blk_alloc N1.out _)
  have M2 := Aside0.mk (show (w1.alloc (.cells #[.slice none 0 0, .slice none 0 0, .bool false, .int .i64 (m 1).time] 29 (0, 0))).drew.heap[w1.heap.size]? = some (.cells #[.slice none 0 0, .slice none 0 0, .bool false, .int .i64 (m 1).time] 29 (0, 0)) from blk_new w1 _)
  have B2 := Aside0.mk (show Below w.heap.size w (w1.alloc (.cells #[.slice none 0 0, .slice none 0 0, .bool false, .int .i64 (m 1).time] 29 (0, 0))).drew from below_drew (below_alloc B1.out _))
  have NE := Aside0.mk (show d.g < w.heap.size ∧ w.heap.size < w1.heap.size from ⟨blk_lt HH.out.blk, blk_lt N1.out⟩)
  clear B1 N1 R1 N0 CB z0 z1
  generalize (w1.alloc (.cells #[.slice none 0 0, .slice none 0 0, .bool false, .int .i64 (m 1).time] 29 (0, 0))).drew = W2 at R2 N2 M2 B2 ⊢
  generalize w1.heap.size = g8 at M2 NE ⊢
  have z2 := R2.out.plain1
  have zf := R2.out.fz 20
  go_upto_region 7 with (fail)
  have R3 := Aside0.mk (R2.out.set 20 (.slice none 0 0) (m' := m) rfl)
  have N3 := Aside0.mk (blk_far N2.out (p := ⟨d.g, 20, none⟩) (by have := NE.out; show w.heap.size ≠ d.g; omega) (.slice none 0 0))
  have M3 := Aside0.mk (blk_far M2.out (p := ⟨d.g, 20, none⟩) (by have := NE.out; show g8 ≠ d.g; omega) (.slice none 0 0))
  have B3 := Aside0.mk ((But.of_below B2.out).set (S := fun k => k = d.g ∨ k = d.bt) (p := ⟨d.g, 20, none⟩) (Or.inl rfl) (.slice none 0 0))
  clear R2 N2 M2 B2 z2 zf
  generalize (W2.setCell ⟨d.g, 20, none⟩ (.slice none 0 0)) = W3 at R3 N3 M3 B3 ⊢
  have y1 := (R3.out.kind1).trans (by rw [HK.out.1])
  have y2 := (R3.out.con1).trans (by rw [HK.out.2.1])
  go_wp2_with (first | (go_at_call 21; (with_reducible refine (bound_calls R3.out _ _ HK.out.2.2.1).mono ?_); rintro e w4 ⟨rfl, hb⟩; have R4 := Aside0.mk (R3.out.below hb); have N4 := Aside0.mk (blk_below N3.out hb); have M4 := Aside0.mk (blk_below M3.out hb); have B4 := Aside0.mk (B3.out.then_ hb); have y3 := R4.out.q1; clear hb y1 y2) | (go_at_call 22; (with_reducible refine (list_none _ _ _ (R4.out.que 1 (by decide))).mono ?_); rintro e w5 ⟨rfl, rfl⟩))
  go_loopw [10, 12, 62] (fun v10 v12 v62 wr => v10 = .slice none 0 0 ∧ v62 = .int .i64 0 ∧ w4 = wr) (fun _ _ _ _ => 0)
  case atStart => exact ⟨rfl, rfl, rfl⟩
  case round =>
    obtain ⟨rfl, rfl, rfl⟩ := hrel
    have x1 := (R4.out.kind1).trans (by rw [HK.out.1])
    have x2 := R4.out.ask1
    have x3 := R4.out.time1
    have KX := Aside0.mk (And.intro x1 (And.intro x2 x3))
    have KB := Aside0.mk (below_drew (Below.refl w4.heap.size w4))
    go_upto_region 18 with (fail)
    go_region_held3 (fun w' => w'.cell? ⟨d.g, 16, none⟩ = some (.int .i64 1) ∧ w'.cell? ⟨d.g, 17, none⟩ = some (.int .i64 (m 1).ask) ∧ w'.cell? ⟨d.g, 14, none⟩ = some (.int .i64 (m 1).time)) (go_keep) (first | (go_at_call 23; (with_reducible refine (CD.out _).mono ?_); rintro e w6 ⟨rfl, hb⟩; have E6 := Aside0.mk (below_step KB.out hb); have y5 := pw_cell_below hb KX.out.1; have y6 := pw_cell_below hb KX.out.2.1; have y7 := pw_cell_below hb KX.out.2.2; clear hb))
    have R6 := Aside0.mk (R4.out.below E6.out)
    have N6 := Aside0.mk (blk_below N4.out E6.out)
    have M6 := Aside0.mk (blk_below M4.out E6.out)
    have B6 := Aside0.mk (B4.out.then_ E6.out)
    have e1 : g8 ≠ d.g := by have := NE.out; omega
    have e2 := e1.symm
    have e3 : w.heap.size ≠ d.g := by have := NE.out; omega
    have e4 := e3.symm
    have e5 : g8 ≠ w.heap.size := by have := NE.out; omega
    have e6 := e5.symm
    have m0 := (blk_cell M6.out 0).trans rfl
    have m1 := (blk_cell M6.out 1).trans rfl
    have m2 := (blk_cell M6.out 2).trans rfl
    have m3 := (blk_cell M6.out 3).trans rfl
    have n0 := (blk_cell N6.out 0).trans rfl
    have n1 := (blk_cell N6.out 1).trans rfl
    have n2 := (blk_cell N6.out 2).trans rfl
    have n3 := (blk_cell N6.out 3).trans rfl
    have f0 := blk_frozen N6.out 0
    have f1 := blk_frozen N6.out 1
    have f2 := blk_frozen N6.out 2
    have f3 := blk_frozen N6.out 3
    have g2 := blk_frozen M6.out 2
    have g3 := blk_frozen M6.out 3
    have h1 := R6.out.fz 14
    have h2 := R6.out.fz 16
    have h3 := R6.out.fz 17
    go_wp2
    go_loopw [16, 17, 96] (fun v16 v17 v96 wr => v96 = .int .i64 0 ∧ w6 = wr) (fun _ _ _ _ => 0)
    case atStart => exact ⟨rfl, rfl⟩
    case round =>
      obtain ⟨rfl, rfl⟩ := hrel
      go_wp2
      have P0 := blk_far (blk_far (blk_far (blk_far (blk_far N6.out (p := ⟨g8, 2, none⟩) e6 (.bool true)) (p := ⟨g8, 3, none⟩) e6 (.int .i64 (m 1).ask)) (p := ⟨d.g, 14, none⟩) e3 (.int .i64 (m 1).ask)) (p := ⟨d.g, 16, none⟩) e3 (.int .i64 0)) (p := ⟨d.g, 17, none⟩) e3 (.int .i64 0)
      have q0 := blk_put P0 0 (.slice none 0 0) rfl
      have q1 := blk_put q0 1 (.slice none 0 0) rfl
      have q2 := blk_put q1 2 (.bool true) rfl
      have q3 := blk_put q2 3 (.int .i64 (m 1).ask) rfl
      refine bodyPost_ret (results_list (rs := [.cell 4 29, .tmp 5]) rfl (by simp) (.cell w.heap.size 29 _ (0, 0) _ rfl q3 Tryz.underlying29 rfl (by kernel_rfl) (.tmp .nil))) rfl ?_
      have L8 : w.heap.size ≤ g8 := by have := NE.out; omega
      exact ⟨rfl, ((((((((R6.out.far HH.out L8 2 _).far HH.out L8 3 _).set 14 _ (m' := mset m 1 { m 1 with time := (m 1).ask }) rfl).set 16 _ (m' := mset m 1 { m 1 with time := (m 1).ask, kind := 0 }) rfl).set 17 _ (m' := mset m 1 { m 1 with time := (m 1).ask, kind := 0, ask := 0 }) rfl).far HH.out (Nat.le_refl _) 0 _).far HH.out (Nat.le_refl _) 1 _).far HH.out (Nat.le_refl _) 2 _).far HH.out (Nat.le_refl _) 3 _, ((((((((B6.out.new L8 2 _).new L8 3 _).set (Or.inl rfl) _).set (Or.inl rfl) _).set (Or.inl rfl) _).new (Nat.le_refl _) 0 _).new (Nat.le_refl _) 1 _).new (Nat.le_refl _) 2 _).new (Nat.le_refl _) 3 _⟩
end Go.Proofs.YtaaaocckfnlgdaaGreatDoorT
