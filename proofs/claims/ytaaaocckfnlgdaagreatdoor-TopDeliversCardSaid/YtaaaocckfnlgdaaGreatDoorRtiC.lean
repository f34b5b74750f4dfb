/- The bound, and who regulates and is constrained. -/
import Derived.Test.YtaaaocckfnlgdaaGreatDoorRtiB
namespace Go.Proofs.YtaaaocckfnlgdaaGreatDoorT
open Go.RowKit Go.Proofs.YtaaaocckfnlgdaaGreatDoorW.PrintWords Go.Proofs.YtaaaocckfnlgdaaGreatDoorW.PrintLast Go.Proofs.YtaaaocckfnlgdaaGreatDoorW.PrintMore Go.Proofs.YtaaaocckfnlgdaaGreatDoor.PBase
set_option maxRecDepth 100000
set_option linter.unusedVariables false
set_option linter.unusedSimpArgs false
set_option maxHeartbeats 1000000 in
theorem bound_calls {w : World} {d : Ad} {ps ss : List Int} {m : Nat → TM} (H : Rt w d ps ss m) (f b : Int) (hb : lbts_Lbts.f 9 (memL m 8) f = some b) :
    Calls Tryz.prog 21 #[.pointer (some ⟨d.g, 0, none⟩), .int .i64 f] w fun e w' => e = .returned (.int .i64 b) ∧ Below w.heap.size w w' := by
  have CM := Aside0.mk (members_calls H)
  have CL := Aside0.mk (fun A c W h1 h2 => lbts_Lbts.calls 9 A c (memL m 8) f b W h1 h2 hb)
  clear H hb
  go_enter Tryz.func21, Tryz.ntmps21
  go_wp2_with (first | (go_at_call 28; (with_reducible refine CM.out.mono ?_); rintro e w1 ⟨v, rfl, ho, hb⟩; obtain ⟨A1, c1, rfl⟩ := Kd.R_slice ho; have O1 := Aside0.mk (Kd.R_reads' ho); have B1 := Aside0.mk hb; clear ho hb) | (go_at_call 38; (with_reducible refine (CL.out _ _ _ O1.out.2.2 O1.out.2.1).mono ?_); rintro e w2 ⟨rfl, hb⟩; have B2 := Aside0.mk (below_step B1.out hb); clear hb))
  go_ret
  exact ⟨rfl, B2.out⟩

/-- 3 checks that hold, laid in a new block. -/
theorem all3n (f e0 e1 e2 : Int) (w : World) :
    Calls Tryz.prog 20 #[.int .i64 f, .slice (some ⟨w.heap.size, 0, none⟩) 3 3] (w.alloc (.cells #[.bool true, .int .i64 e0, .bool true, .int .i64 e1, .bool true, .int .i64 e2] 63 (0, 0))) fun e w' => e = .returned .nilIface ∧ Below w.heap.size w w' := by
  have B := blk_new w (.cells #[.bool true, .int .i64 e0, .bool true, .int .i64 e1, .bool true, .int .i64 e2] 63 (0, 0))
  refine (all_calls f w.heap.size 3 3 (by omega) (w.alloc (.cells #[.bool true, .int .i64 e0, .bool true, .int .i64 e1, .bool true, .int .i64 e2] 63 (0, 0))) (fun i hi => ?_)).mono (fun e w' h => ⟨h.1, below_step (below_alloc (Below.refl _ w) _) h.2⟩)
  have hc : ∀ (k : Nat) (v : Value), (#[.bool true, .int .i64 e0, .bool true, .int .i64 e1, .bool true, .int .i64 e2] : Array Value)[k]? = some v → (w.alloc (.cells #[.bool true, .int .i64 e0, .bool true, .int .i64 e1, .bool true, .int .i64 e2] 63 (0, 0))).cell? ⟨w.heap.size, k, none⟩ = some v := fun k v hv => (blk_cell B k).trans hv
  match i, hi with
  | 0, _ => exact ⟨e0, hc 0 _ rfl, hc 1 _ rfl⟩
  | 1, _ => exact ⟨e1, hc 2 _ rfl, hc 3 _ rfl⟩
  | 2, _ => exact ⟨e2, hc 4 _ rfl, hc 5 _ rfl⟩

set_option maxHeartbeats 2000000 in
theorem bound0 {w : World} {d : Ad} {ps ss : List Int} {m : Nat → TM} (H : Rt w d ps ss m) (hi : (m 0).is = true) (ht : 0 ≤ (m 0).time) (b : Int) (hb : lbts_Lbts.f 9 (memL m 8) 0 = some b) :
    Calls Tryz.prog 10 #[.pointer (some ⟨d.g, 0, none⟩), .int .i64 0] w fun e w' => e = .returned (.int .i64 b) ∧ Below w.heap.size w w' := by
  have CT := Aside0.mk (time0 H hi)
  have CB := Aside0.mk (bound_calls H 0 b hb)
  have h0 : ((m 0).time < 0) = False := eq_false (by omega)
  have h1 : decide ((m 0).time < 0) = false := decide_eq_false (by omega)
  clear H hi hb
  go_enter Tryz.func10, Tryz.ntmps10
  go_wp2_with (first | (go_at_call 9; (with_reducible refine CT.out.mono ?_); rintro e w1 ⟨rfl, rfl⟩) | (go_at_call 21; (with_reducible refine CB.out.mono ?_); rintro e w2 ⟨rfl, hb⟩; have B2 := Aside0.mk hb; clear hb))
  go_ret
  exact ⟨rfl, B2.out⟩
set_option maxHeartbeats 2000000 in
theorem constrain0 {w : World} {d : Ad} {ps ss : List Int} {m : Nat → TM} (H : Rt w d ps ss m) (hi : (m 0).is = true) (hc : (m 0).con = false) (hk : (m 0).kind = 0) (b : Int) (hb : lbts_Lbts.f 9 (memL m 8) 0 = some b) (hlt : (m 0).time < b) :
    Calls Tryz.prog 17 #[.pointer (some ⟨d.g, 0, none⟩), .int .i64 0] w (Turns d ps ss (mset m 0 { m 0 with con := true }) w) := by
  have HH := Aside0.mk H
  have CB := Aside0.mk (by0 H hi)
  have HK := Aside0.mk (And.intro hc (And.intro hk hb))
  clear H hi hc hk hb
  go_enter Tryz.func17, Tryz.ntmps17
  go_upto_region 4 with (go_at_call 18; (with_reducible refine CB.out.mono ?_); rintro e w1 ⟨rfl, hb⟩; have B1 := Aside0.mk hb; have R1 := Aside0.mk (HH.out.below hb); have z0 := (R1.out.kind0).trans (by rw [HK.out.2.1]); have z1 := R1.out.time0; have z2 := (R1.out.con0).trans (by rw [HK.out.1]); have KK := Aside0.mk (And.intro z0 (And.intro z1 z2)); clear hb)
  go_region_held3 (fun w' => w'.cell? ⟨d.g, 6, none⟩ = some (.int .i64 0) ∧ w'.cell? ⟨d.g, 4, none⟩ = some (.int .i64 (m 0).time) ∧ w'.cell? ⟨d.g, 3, none⟩ = some (.bool false)) (go_keep) (first | (go_at_call 21; (with_reducible refine (bound_calls R1.out.drew _ _ HK.out.2.2).mono ?_); rintro e w2 ⟨rfl, hb⟩; have B2 := Aside0.mk (below_step (below_drew B1.out) hb); have R2 := Aside0.mk (R1.out.drew.below hb); have y2 := pw_cell_below hb KK.out.1; have y3 := pw_cell_below hb KK.out.2.1; have y4 := pw_cell_below hb KK.out.2.2; clear hb) | (go_at_call 20; (with_reducible refine (all3n _ _ _ _ _).mono ?_); rintro e w3 ⟨rfl, hb⟩; have B3 := Aside0.mk (below_step B2.out hb); have R3 := Aside0.mk (R2.out.below hb); have x2 := pw_cell_below hb y2; have x3 := pw_cell_below hb y3; have x4 := pw_cell_below hb y4; have zf := R3.out.fz 3; clear hb))
  go_wp2
  go_ret
  exact ⟨rfl, R3.out.set 3 _ rfl, (But.of_below B3.out).set (Or.inl rfl) _⟩

set_option maxHeartbeats 2000000 in
theorem bound1 {w : World} {d : Ad} {ps ss : List Int} {m : Nat → TM} (H : Rt w d ps ss m) (hi : (m 1).is = true) (ht : 0 ≤ (m 1).time) (b : Int) (hb : lbts_Lbts.f 9 (memL m 8) 1 = some b) :
    Calls Tryz.prog 10 #[.pointer (some ⟨d.g, 0, none⟩), .int .i64 1] w fun e w' => e = .returned (.int .i64 b) ∧ Below w.heap.size w w' := by
  have CT := Aside0.mk (time1 H hi)
  have CB := Aside0.mk (bound_calls H 1 b hb)
  have h0 : ((m 1).time < 0) = False := eq_false (by omega)
  have h1 : decide ((m 1).time < 0) = false := decide_eq_false (by omega)
  clear H hi hb
  go_enter Tryz.func10, Tryz.ntmps10
  go_wp2_with (first | (go_at_call 9; (with_reducible refine CT.out.mono ?_); rintro e w1 ⟨rfl, rfl⟩) | (go_at_call 21; (with_reducible refine CB.out.mono ?_); rintro e w2 ⟨rfl, hb⟩; have B2 := Aside0.mk hb; clear hb))
  go_ret
  exact ⟨rfl, B2.out⟩
set_option maxHeartbeats 2000000 in
theorem constrain1 {w : World} {d : Ad} {ps ss : List Int} {m : Nat → TM} (H : Rt w d ps ss m) (hi : (m 1).is = true) (hc : (m 1).con = false) (hk : (m 1).kind = 0) (b : Int) (hb : lbts_Lbts.f 9 (memL m 8) 1 = some b) (hlt : (m 1).time < b) :
    Calls Tryz.prog 17 #[.pointer (some ⟨d.g, 0, none⟩), .int .i64 1] w (Turns d ps ss (mset m 1 { m 1 with con := true }) w) := by
  have HH := Aside0.mk H
  have CB := Aside0.mk (by1 H hi)
  have HK := Aside0.mk (And.intro hc (And.intro hk hb))
  clear H hi hc hk hb
  go_enter Tryz.func17, Tryz.ntmps17
  go_upto_region 4 with (go_at_call 18; (with_reducible refine CB.out.mono ?_); rintro e w1 ⟨rfl, hb⟩; have B1 := Aside0.mk hb; have R1 := Aside0.mk (HH.out.below hb); have z0 := (R1.out.kind1).trans (by rw [HK.out.2.1]); have z1 := R1.out.time1; have z2 := (R1.out.con1).trans (by rw [HK.out.1]); have KK := Aside0.mk (And.intro z0 (And.intro z1 z2)); clear hb)
  go_region_held3 (fun w' => w'.cell? ⟨d.g, 16, none⟩ = some (.int .i64 0) ∧ w'.cell? ⟨d.g, 14, none⟩ = some (.int .i64 (m 1).time) ∧ w'.cell? ⟨d.g, 13, none⟩ = some (.bool false)) (go_keep) (first | (go_at_call 21; (with_reducible refine (bound_calls R1.out.drew _ _ HK.out.2.2).mono ?_); rintro e w2 ⟨rfl, hb⟩; have B2 := Aside0.mk (below_step (below_drew B1.out) hb); have R2 := Aside0.mk (R1.out.drew.below hb); have y2 := pw_cell_below hb KK.out.1; have y3 := pw_cell_below hb KK.out.2.1; have y4 := pw_cell_below hb KK.out.2.2; clear hb) | (go_at_call 20; (with_reducible refine (all3n _ _ _ _ _).mono ?_); rintro e w3 ⟨rfl, hb⟩; have B3 := Aside0.mk (below_step B2.out hb); have R3 := Aside0.mk (R2.out.below hb); have x2 := pw_cell_below hb y2; have x3 := pw_cell_below hb y3; have x4 := pw_cell_below hb y4; have zf := R3.out.fz 13; clear hb))
  go_wp2
  go_ret
  exact ⟨rfl, R3.out.set 13 _ rfl, (But.of_below B3.out).set (Or.inl rfl) _⟩
end Go.Proofs.YtaaaocckfnlgdaaGreatDoorT
