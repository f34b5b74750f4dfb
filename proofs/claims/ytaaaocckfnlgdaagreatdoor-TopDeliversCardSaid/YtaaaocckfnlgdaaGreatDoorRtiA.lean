/- The calls of package rti at a member (0 or 1), by the table of what they answer. -/
import Derived.Test.YtaaaocckfnlgdaaGreatDoorRti
namespace Go.Proofs.YtaaaocckfnlgdaaGreatDoorT
open Go.RowKit Go.Proofs.YtaaaocckfnlgdaaGreatDoorW.PrintWords
set_option maxRecDepth 100000
set_option linter.unusedVariables false
set_option linter.unusedSimpArgs false
section
variable {w : World} {d : Ad} {ps ss : List Int} {m : Nat → TM} (H : Rt w d ps ss m)
include H
theorem Rt.saving : w.cell? ⟨d.g, 82, none⟩ = some (.bool false) := (blk_cell H.blk 82).trans rfl
theorem Rt.tabp : w.cell? ⟨d.g, 1, none⟩ = some (.pointer (some ⟨d.bt, 0, none⟩)) := (blk_cell H.blk 1).trans rfl
theorem Rt.fz (k : Nat) : w.frozen? ⟨d.g, k, none⟩ = false := blk_frozen H.blk k
theorem Rt.is0 : w.cell? ⟨d.g, 2, none⟩ = some (.bool (m 0).is) := (blk_cell H.blk 2).trans rfl
theorem Rt.con0 : w.cell? ⟨d.g, 3, none⟩ = some (.bool (m 0).con) := (blk_cell H.blk 3).trans rfl
theorem Rt.time0 : w.cell? ⟨d.g, 4, none⟩ = some (.int .i64 (m 0).time) := (blk_cell H.blk 4).trans rfl
theorem Rt.look0 : w.cell? ⟨d.g, 5, none⟩ = some (.int .i64 (m 0).look) := (blk_cell H.blk 5).trans rfl
theorem Rt.kind0 : w.cell? ⟨d.g, 6, none⟩ = some (.int .i64 (m 0).kind) := (blk_cell H.blk 6).trans rfl
theorem Rt.ask0 : w.cell? ⟨d.g, 7, none⟩ = some (.int .i64 (m 0).ask) := (blk_cell H.blk 7).trans rfl
theorem Rt.sent0 : w.cell? ⟨d.g, 8, none⟩ = some (.int .i64 (m 0).sent) := (blk_cell H.blk 8).trans rfl
theorem Rt.q0 : w.cell? ⟨d.g, 9, none⟩ = some (.pointer (some ⟨d.q 0, 0, none⟩)) := (blk_cell H.blk 9).trans rfl
theorem Rt.plain0 : w.cell? ⟨d.g, 10, none⟩ = some (.slice none 0 0) := (blk_cell H.blk 10).trans rfl
theorem Rt.subs0 : w.cell? ⟨d.g, 11, none⟩ = some (.int .u32 (m 0).subs) := (blk_cell H.blk 11).trans rfl
theorem Rt.is1 : w.cell? ⟨d.g, 12, none⟩ = some (.bool (m 1).is) := (blk_cell H.blk 12).trans rfl
theorem Rt.con1 : w.cell? ⟨d.g, 13, none⟩ = some (.bool (m 1).con) := (blk_cell H.blk 13).trans rfl
theorem Rt.time1 : w.cell? ⟨d.g, 14, none⟩ = some (.int .i64 (m 1).time) := (blk_cell H.blk 14).trans rfl
theorem Rt.look1 : w.cell? ⟨d.g, 15, none⟩ = some (.int .i64 (m 1).look) := (blk_cell H.blk 15).trans rfl
theorem Rt.kind1 : w.cell? ⟨d.g, 16, none⟩ = some (.int .i64 (m 1).kind) := (blk_cell H.blk 16).trans rfl
theorem Rt.ask1 : w.cell? ⟨d.g, 17, none⟩ = some (.int .i64 (m 1).ask) := (blk_cell H.blk 17).trans rfl
theorem Rt.sent1 : w.cell? ⟨d.g, 18, none⟩ = some (.int .i64 (m 1).sent) := (blk_cell H.blk 18).trans rfl
theorem Rt.q1 : w.cell? ⟨d.g, 19, none⟩ = some (.pointer (some ⟨d.q 1, 0, none⟩)) := (blk_cell H.blk 19).trans rfl
theorem Rt.plain1 : w.cell? ⟨d.g, 20, none⟩ = some (.slice none 0 0) := (blk_cell H.blk 20).trans rfl
theorem Rt.subs1 : w.cell? ⟨d.g, 21, none⟩ = some (.int .u32 (m 1).subs) := (blk_cell H.blk 21).trans rfl
end

/-- 2 checks that hold, laid in a new block. -/
theorem all2 (f e0 e1 : Int) (w : World) :
    Calls Tryz.prog 20 #[.int .i64 f, .slice (some ⟨w.heap.size, 0, none⟩) 2 2] (w.alloc (.cells #[.bool true, .int .i64 e0, .bool true, .int .i64 e1] 63 (0, 0))).drew fun e w' => e = .returned .nilIface ∧ Below w.heap.size w w' := by
  have B := blk_new w (.cells #[.bool true, .int .i64 e0, .bool true, .int .i64 e1] 63 (0, 0))
  refine (all_calls f w.heap.size 2 2 (by omega) (w.alloc (.cells #[.bool true, .int .i64 e0, .bool true, .int .i64 e1] 63 (0, 0))).drew (fun i hi => ?_)).mono (fun e w' h => ⟨h.1, below_step (below_drew (below_alloc (Below.refl _ w) _)) h.2⟩)
  have hc : ∀ (k : Nat) (v : Value), (#[.bool true, .int .i64 e0, .bool true, .int .i64 e1] : Array Value)[k]? = some v → (w.alloc (.cells #[.bool true, .int .i64 e0, .bool true, .int .i64 e1] 63 (0, 0))).drew.cell? ⟨w.heap.size, k, none⟩ = some v := fun k v hv => (blk_cell B k).trans hv
  match i, hi with
  | 0, _ => exact ⟨e0, hc 0 _ rfl, hc 1 _ rfl⟩
  | 1, _ => exact ⟨e1, hc 2 _ rfl, hc 3 _ rfl⟩

/-- 3 checks that hold, laid in a new block. -/
theorem all3 (f e0 e1 e2 : Int) (w : World) :
    Calls Tryz.prog 20 #[.int .i64 f, .slice (some ⟨w.heap.size, 0, none⟩) 3 3] (w.alloc (.cells #[.bool true, .int .i64 e0, .bool true, .int .i64 e1, .bool true, .int .i64 e2] 63 (0, 0))).drew fun e w' => e = .returned .nilIface ∧ Below w.heap.size w w' := by
  have B := blk_new w (.cells #[.bool true, .int .i64 e0, .bool true, .int .i64 e1, .bool true, .int .i64 e2] 63 (0, 0))
  refine (all_calls f w.heap.size 3 3 (by omega) (w.alloc (.cells #[.bool true, .int .i64 e0, .bool true, .int .i64 e1, .bool true, .int .i64 e2] 63 (0, 0))).drew (fun i hi => ?_)).mono (fun e w' h => ⟨h.1, below_step (below_drew (below_alloc (Below.refl _ w) _)) h.2⟩)
  have hc : ∀ (k : Nat) (v : Value), (#[.bool true, .int .i64 e0, .bool true, .int .i64 e1, .bool true, .int .i64 e2] : Array Value)[k]? = some v → (w.alloc (.cells #[.bool true, .int .i64 e0, .bool true, .int .i64 e1, .bool true, .int .i64 e2] 63 (0, 0))).drew.cell? ⟨w.heap.size, k, none⟩ = some v := fun k v hv => (blk_cell B k).trans hv
  match i, hi with
  | 0, _ => exact ⟨e0, hc 0 _ rfl, hc 1 _ rfl⟩
  | 1, _ => exact ⟨e1, hc 2 _ rfl, hc 3 _ rfl⟩
  | 2, _ => exact ⟨e2, hc 4 _ rfl, hc 5 _ rfl⟩

/-- 4 checks that hold, laid in a new block. -/
theorem all4 (f e0 e1 e2 e3 : Int) (w : World) :
    Calls Tryz.prog 20 #[.int .i64 f, .slice (some ⟨w.heap.size, 0, none⟩) 4 4] (w.alloc (.cells #[.bool true, .int .i64 e0, .bool true, .int .i64 e1, .bool true, .int .i64 e2, .bool true, .int .i64 e3] 63 (0, 0))).drew fun e w' => e = .returned .nilIface ∧ Below w.heap.size w w' := by
  have B := blk_new w (.cells #[.bool true, .int .i64 e0, .bool true, .int .i64 e1, .bool true, .int .i64 e2, .bool true, .int .i64 e3] 63 (0, 0))
  refine (all_calls f w.heap.size 4 4 (by omega) (w.alloc (.cells #[.bool true, .int .i64 e0, .bool true, .int .i64 e1, .bool true, .int .i64 e2, .bool true, .int .i64 e3] 63 (0, 0))).drew (fun i hi => ?_)).mono (fun e w' h => ⟨h.1, below_step (below_drew (below_alloc (Below.refl _ w) _)) h.2⟩)
  have hc : ∀ (k : Nat) (v : Value), (#[.bool true, .int .i64 e0, .bool true, .int .i64 e1, .bool true, .int .i64 e2, .bool true, .int .i64 e3] : Array Value)[k]? = some v → (w.alloc (.cells #[.bool true, .int .i64 e0, .bool true, .int .i64 e1, .bool true, .int .i64 e2, .bool true, .int .i64 e3] 63 (0, 0))).drew.cell? ⟨w.heap.size, k, none⟩ = some v := fun k v hv => (blk_cell B k).trans hv
  match i, hi with
  | 0, _ => exact ⟨e0, hc 0 _ rfl, hc 1 _ rfl⟩
  | 1, _ => exact ⟨e1, hc 2 _ rfl, hc 3 _ rfl⟩
  | 2, _ => exact ⟨e2, hc 4 _ rfl, hc 5 _ rfl⟩
  | 3, _ => exact ⟨e3, hc 6 _ rfl, hc 7 _ rfl⟩

set_option maxHeartbeats 1000000 in
theorem by0 {w : World} {d : Ad} {ps ss : List Int} {m : Nat → TM} (H : Rt w d ps ss m) (hi : (m 0).is = true) :
    Calls Tryz.prog 18 #[.pointer (some ⟨d.g, 0, none⟩), .int .i64 0] w fun e w' => e = .returned .nilIface ∧ Below w.heap.size w w' := by
  have k0 := H.is0
  have k1 := H.saving
  rw [hi] at k0
  clear H hi
  have KK := Aside0.mk (And.intro k0 k1)
  go_enter Tryz.func18, Tryz.ntmps18
  go_upto_region 3 with (fail)
  go_region_held3 (fun w' => w'.cell? ⟨d.g, 2, none⟩ = some (.bool true) ∧ w'.cell? ⟨d.g, 82, none⟩ = some (.bool false)) (go_keep) (first | (go_at_call 20; (with_reducible refine (all2 _ _ _ _).mono ?_); rintro e w1 ⟨rfl, hb⟩; have B1 := Aside0.mk hb; have z0 := pw_cell_below hb KK.out.1; have z1 := pw_cell_below hb KK.out.2; clear hb))
  go_wp2
  go_ret
  exact ⟨rfl, B1.out⟩

set_option maxHeartbeats 1000000 in
theorem by1 {w : World} {d : Ad} {ps ss : List Int} {m : Nat → TM} (H : Rt w d ps ss m) (hi : (m 1).is = true) :
    Calls Tryz.prog 18 #[.pointer (some ⟨d.g, 0, none⟩), .int .i64 1] w fun e w' => e = .returned .nilIface ∧ Below w.heap.size w w' := by
  have k0 := H.is1
  have k1 := H.saving
  rw [hi] at k0
  clear H hi
  have KK := Aside0.mk (And.intro k0 k1)
  go_enter Tryz.func18, Tryz.ntmps18
  go_upto_region 3 with (fail)
  go_region_held3 (fun w' => w'.cell? ⟨d.g, 12, none⟩ = some (.bool true) ∧ w'.cell? ⟨d.g, 82, none⟩ = some (.bool false)) (go_keep) (first | (go_at_call 20; (with_reducible refine (all2 _ _ _ _).mono ?_); rintro e w1 ⟨rfl, hb⟩; have B1 := Aside0.mk hb; have z0 := pw_cell_below hb KK.out.1; have z1 := pw_cell_below hb KK.out.2; clear hb))
  go_wp2
  go_ret
  exact ⟨rfl, B1.out⟩

/-- What a call that turns the table answers: no error; the table as told; all else left alone. -/
def Turns (d : Ad) (ps ss : List Int) (m : Nat → TM) (w : World) (e : Ending) (w' : World) : Prop := e = .returned (.int .i64 0) ∧ Rt w' d ps ss m ∧ But (fun k => k = d.g ∨ k = d.bt) w w'
theorem Rt.low {w : World} {d : Ad} {ps ss : List Int} {m : Nat → TM} (H : Rt w d ps ss m) : d.base ≤ w.heap.size := Nat.le_trans H.g0 (Nat.le_of_lt (blk_lt H.blk))
theorem Rt.lower {w w' : World} {d : Ad} {ps ss : List Int} {m : Nat → TM} (H : Rt w d ps ss m) (h : Below w.heap.size w w') : Below d.base w w' := h.mono H.low

set_option maxHeartbeats 2000000 in
theorem time0 {w : World} {d : Ad} {ps ss : List Int} {m : Nat → TM} (H : Rt w d ps ss m) (hi : (m 0).is = true) :
    Calls Tryz.prog 9 #[.pointer (some ⟨d.g, 0, none⟩), .int .i64 0] w fun e w' => e = .returned (.int .i64 (m 0).time) ∧ w = w' := by
  have k0 := H.is0
  have k1 := H.time0
  rw [hi] at k0
  clear H hi
  go_enter Tryz.func9, Tryz.ntmps9
  go_wp2
  go_ret
  exact ⟨rfl, rfl⟩
set_option maxHeartbeats 2000000 in
theorem join0 {w : World} {d : Ad} {ps ss : List Int} {m : Nat → TM} (H : Rt w d ps ss m) (hi : (m 0).is = false) :
    Calls Tryz.prog 13 #[.pointer (some ⟨d.g, 0, none⟩), .int .i64 0] w (Turns d ps ss (mset m 0 { m 0 with is := true }) w) := by
  have k0 := H.is0
  have k1 := H.saving
  rw [hi] at k0
  have HH := Aside0.mk H
  have KK := Aside0.mk (And.intro k0 k1)
  clear H hi
  go_enter Tryz.func13, Tryz.ntmps13
  go_upto_region 3 with (fail)
  go_region_held3 (fun w' => w'.cell? ⟨d.g, 2, none⟩ = some (.bool false) ∧ w'.cell? ⟨d.g, 82, none⟩ = some (.bool false)) (go_keep) (first | (go_at_call 20; (with_reducible refine (all2 _ _ _ _).mono ?_); rintro e w1 ⟨rfl, hb⟩; have B1 := Aside0.mk hb; have R1 := Aside0.mk (HH.out.below hb); have z0 := pw_cell_below hb KK.out.1; have z1 := pw_cell_below hb KK.out.2; have zf := R1.out.fz 2; clear hb))
  go_wp2
  go_ret
  exact ⟨rfl, R1.out.set 2 _ rfl, (But.of_below B1.out).set (Or.inl rfl) _⟩
set_option maxHeartbeats 2000000 in
theorem publish0 {w : World} {d : Ad} {ps ss : List Int} {m : Nat → TM} (H : Rt w d ps ss m) (hi : (m 0).is = true) (hc : 1 ≤ d.ab.length) :
    Calls Tryz.prog 14 #[.pointer (some ⟨d.g, 0, none⟩), .int .i64 0, .int .i64 0, .bool true] w (Turns d (putW d.ab.length ps 0 0 true) ss m w) := by
  have HH := Aside0.mk H
  have CB := Aside0.mk (by0 H hi)
  have HE := Aside0.mk (show errT d.ab.length 0 0 = 0 from errT_ok ⟨by decide, by decide⟩ ⟨by decide, by omega⟩)
  clear H hi hc
  go_enter Tryz.func14, Tryz.ntmps14
  go_wp2_with (first | (go_at_call 18; (with_reducible refine CB.out.mono ?_); rintro e w1 ⟨rfl, hb⟩; have B1 := Aside0.mk hb; have R1 := Aside0.mk (HH.out.below hb); have z0 := R1.out.tabp; clear hb) | (go_at_call 33; (with_reducible refine (publish_calls R1.out.tab 0 0 true).mono ?_); rintro e w2 ⟨rfl, ht, hb⟩; have T2 := Aside0.mk ht; have D2 := Aside0.mk hb; clear ht hb))
  go_ret
  exact ⟨by rw [HE.out]; rfl, R1.out.turn T2.out D2.out, (But.of_below B1.out).trans (D2.out.mono (fun k hk => Or.inr hk))⟩
set_option maxHeartbeats 2000000 in
theorem subscribe_0 {w : World} {d : Ad} {ps ss : List Int} {m : Nat → TM} (H : Rt w d ps ss m) (hc : 1 ≤ d.ab.length) :
    Calls Tryz.prog 34 #[.pointer (some ⟨d.g, 0, none⟩), .int .i64 0, .int .i64 0, .bool true] w fun e w' => ∃ s, Turns d ps (putW d.ab.length ss 0 0 true) (mset m 0 { m 0 with subs := s }) w e w' := by
  have HH := Aside0.mk H
  have z0 := H.tabp
  have HE := Aside0.mk (show errT d.ab.length 0 0 = 0 from errT_ok ⟨by decide, by decide⟩ ⟨by decide, by omega⟩)
  clear H hc
  go_enter Tryz.func34, Tryz.ntmps34
  go_upto_region 3 with (go_at_call 56; (with_reducible refine (subscribe_calls HH.out.tab 0 0 true).mono ?_); rintro e w2 ⟨rfl, ht, hb⟩; have R2 := Aside0.mk (HH.out.turn ht hb); have D2 := Aside0.mk (hb.mono (S' := fun k => k = d.g ∨ k = d.bt) (fun k hk => Or.inr hk)); have z1 := R2.out.subs0; have zf := R2.out.fz 11; clear ht hb)
  rw [HE.out]
  go_upto_region 5 with (fail)
  go_region
  go_wp2
  go_ret
  exact ⟨bits BinOp.or IntKind.u32 (m 0).subs 1, rfl, (R2.out.set 11 (.int .u32 (bits BinOp.or IntKind.u32 (m 0).subs 1)) rfl).drew, (D2.out.set (Or.inl rfl) _).drew⟩
set_option maxHeartbeats 2000000 in
theorem subscribe0 {w : World} {d : Ad} {ps ss : List Int} {m : Nat → TM} (H : Rt w d ps ss m) (hi : (m 0).is = true) (hc : 1 ≤ d.ab.length) :
    Calls Tryz.prog 15 #[.pointer (some ⟨d.g, 0, none⟩), .int .i64 0, .int .i64 0, .bool true] w fun e w' => ∃ s, Turns d ps (putW d.ab.length ss 0 0 true) (mset m 0 { m 0 with subs := s }) w e w' := by
  have HH := Aside0.mk H
  have CB := Aside0.mk (by0 H hi)
  have HC := Aside0.mk hc
  clear H hi hc
  go_enter Tryz.func15, Tryz.ntmps15
  go_wp2_with (first | (go_at_call 18; (with_reducible refine CB.out.mono ?_); rintro e w1 ⟨rfl, hb⟩; have B1 := Aside0.mk hb; have R1 := Aside0.mk (HH.out.below hb); clear hb) | (go_at_call 34; (with_reducible refine (subscribe_0 R1.out HC.out).mono ?_); rintro e w2 ⟨s, rfl, hr, hb⟩; have R2 := Aside0.mk hr; have D2 := Aside0.mk ((But.of_below B1.out).trans hb); clear hr hb))
  go_ret
  exact ⟨s, rfl, R2.out, D2.out⟩
set_option maxHeartbeats 2000000 in
theorem ask0 {w : World} {d : Ad} {ps ss : List Int} {m : Nat → TM} (H : Rt w d ps ss m) (hi : (m 0).is = true) (hk : (m 0).kind = 0) (kind t : Int) (h1 : 1 ≤ kind) (h3 : kind ≤ 3) (h0 : 0 ≤ t) (ht : t ≤ 1099511627776) (hp : (m 0).time ≤ t) :
    Calls Tryz.prog 7 #[.pointer (some ⟨d.g, 0, none⟩), .int .i64 0, .int .i64 kind, .int .i64 t] w (Turns d ps ss (mset m 0 { m 0 with kind := kind, ask := t }) w) := by
  have HH := Aside0.mk H
  have CB := Aside0.mk (by0 H hi)
  have HK := Aside0.mk hk
  clear H hi hk
  go_enter Tryz.func7, Tryz.ntmps7
  go_upto_region 5 with (go_at_call 18; (with_reducible refine CB.out.mono ?_); rintro e w1 ⟨rfl, hb⟩; have B1 := Aside0.mk hb; have R1 := Aside0.mk (HH.out.below hb); have z0 := (R1.out.kind0).trans (by rw [HK.out]); have z1 := R1.out.time0; have KK := Aside0.mk (And.intro z0 z1); clear hb)
  go_region_held3 (fun w' => w'.cell? ⟨d.g, 6, none⟩ = some (.int .i64 0) ∧ w'.cell? ⟨d.g, 4, none⟩ = some (.int .i64 (m 0).time)) (go_keep) (first | (go_at_call 20; (with_reducible refine (all4 _ _ _ _ _ _).mono ?_); rintro e w2 ⟨rfl, hb⟩; have B2 := Aside0.mk (below_step B1.out hb); have R2 := Aside0.mk (R1.out.below hb); have z2 := pw_cell_below hb KK.out.1; have z3 := pw_cell_below hb KK.out.2; have zf := R2.out.fz 6; have zg := R2.out.fz 7; have z4 := R2.out.ask0; clear hb))
  go_wp2
  go_ret
  exact ⟨rfl, (R2.out.set 6 _ (m' := mset m 0 { m 0 with kind := kind }) rfl).set 7 _ rfl, ((But.of_below B2.out).set (Or.inl rfl) _).set (Or.inl rfl) _⟩

set_option maxHeartbeats 2000000 in
theorem time1 {w : World} {d : Ad} {ps ss : List Int} {m : Nat → TM} (H : Rt w d ps ss m) (hi : (m 1).is = true) :
    Calls Tryz.prog 9 #[.pointer (some ⟨d.g, 0, none⟩), .int .i64 1] w fun e w' => e = .returned (.int .i64 (m 1).time) ∧ w = w' := by
  have k0 := H.is1
  have k1 := H.time1
  rw [hi] at k0
  clear H hi
  go_enter Tryz.func9, Tryz.ntmps9
  go_wp2
  go_ret
  exact ⟨rfl, rfl⟩
set_option maxHeartbeats 2000000 in
theorem join1 {w : World} {d : Ad} {ps ss : List Int} {m : Nat → TM} (H : Rt w d ps ss m) (hi : (m 1).is = false) :
    Calls Tryz.prog 13 #[.pointer (some ⟨d.g, 0, none⟩), .int .i64 1] w (Turns d ps ss (mset m 1 { m 1 with is := true }) w) := by
  have k0 := H.is1
  have k1 := H.saving
  rw [hi] at k0
  have HH := Aside0.mk H
  have KK := Aside0.mk (And.intro k0 k1)
  clear H hi
  go_enter Tryz.func13, Tryz.ntmps13
  go_upto_region 3 with (fail)
  go_region_held3 (fun w' => w'.cell? ⟨d.g, 12, none⟩ = some (.bool false) ∧ w'.cell? ⟨d.g, 82, none⟩ = some (.bool false)) (go_keep) (first | (go_at_call 20; (with_reducible refine (all2 _ _ _ _).mono ?_); rintro e w1 ⟨rfl, hb⟩; have B1 := Aside0.mk hb; have R1 := Aside0.mk (HH.out.below hb); have z0 := pw_cell_below hb KK.out.1; have z1 := pw_cell_below hb KK.out.2; have zf := R1.out.fz 12; clear hb))
  go_wp2
  go_ret
  exact ⟨rfl, R1.out.set 12 _ rfl, (But.of_below B1.out).set (Or.inl rfl) _⟩
set_option maxHeartbeats 2000000 in
theorem publish1 {w : World} {d : Ad} {ps ss : List Int} {m : Nat → TM} (H : Rt w d ps ss m) (hi : (m 1).is = true) (hc : 1 ≤ d.ab.length) :
    Calls Tryz.prog 14 #[.pointer (some ⟨d.g, 0, none⟩), .int .i64 1, .int .i64 0, .bool true] w (Turns d (putW d.ab.length ps 1 0 true) ss m w) := by
  have HH := Aside0.mk H
  have CB := Aside0.mk (by1 H hi)
  have HE := Aside0.mk (show errT d.ab.length 1 0 = 0 from errT_ok ⟨by decide, by decide⟩ ⟨by decide, by omega⟩)
  clear H hi hc
  go_enter Tryz.func14, Tryz.ntmps14
  go_wp2_with (first | (go_at_call 18; (with_reducible refine CB.out.mono ?_); rintro e w1 ⟨rfl, hb⟩; have B1 := Aside0.mk hb; have R1 := Aside0.mk (HH.out.below hb); have z0 := R1.out.tabp; clear hb) | (go_at_call 33; (with_reducible refine (publish_calls R1.out.tab 1 0 true).mono ?_); rintro e w2 ⟨rfl, ht, hb⟩; have T2 := Aside0.mk ht; have D2 := Aside0.mk hb; clear ht hb))
  go_ret
  exact ⟨by rw [HE.out]; rfl, R1.out.turn T2.out D2.out, (But.of_below B1.out).trans (D2.out.mono (fun k hk => Or.inr hk))⟩
set_option maxHeartbeats 2000000 in
theorem subscribe_1 {w : World} {d : Ad} {ps ss : List Int} {m : Nat → TM} (H : Rt w d ps ss m) (hc : 1 ≤ d.ab.length) :
    Calls Tryz.prog 34 #[.pointer (some ⟨d.g, 0, none⟩), .int .i64 1, .int .i64 0, .bool true] w fun e w' => ∃ s, Turns d ps (putW d.ab.length ss 1 0 true) (mset m 1 { m 1 with subs := s }) w e w' := by
  have HH := Aside0.mk H
  have z0 := H.tabp
  have HE := Aside0.mk (show errT d.ab.length 1 0 = 0 from errT_ok ⟨by decide, by decide⟩ ⟨by decide, by omega⟩)
  clear H hc
  go_enter Tryz.func34, Tryz.ntmps34
  go_upto_region 3 with (go_at_call 56; (with_reducible refine (subscribe_calls HH.out.tab 1 0 true).mono ?_); rintro e w2 ⟨rfl, ht, hb⟩; have R2 := Aside0.mk (HH.out.turn ht hb); have D2 := Aside0.mk (hb.mono (S' := fun k => k = d.g ∨ k = d.bt) (fun k hk => Or.inr hk)); have z1 := R2.out.subs1; have zf := R2.out.fz 21; clear ht hb)
  rw [HE.out]
  go_upto_region 5 with (fail)
  go_region
  go_wp2
  go_ret
  exact ⟨bits BinOp.or IntKind.u32 (m 1).subs 1, rfl, (R2.out.set 21 (.int .u32 (bits BinOp.or IntKind.u32 (m 1).subs 1)) rfl).drew, (D2.out.set (Or.inl rfl) _).drew⟩
set_option maxHeartbeats 2000000 in
theorem subscribe1 {w : World} {d : Ad} {ps ss : List Int} {m : Nat → TM} (H : Rt w d ps ss m) (hi : (m 1).is = true) (hc : 1 ≤ d.ab.length) :
    Calls Tryz.prog 15 #[.pointer (some ⟨d.g, 0, none⟩), .int .i64 1, .int .i64 0, .bool true] w fun e w' => ∃ s, Turns d ps (putW d.ab.length ss 1 0 true) (mset m 1 { m 1 with subs := s }) w e w' := by
  have HH := Aside0.mk H
  have CB := Aside0.mk (by1 H hi)
  have HC := Aside0.mk hc
  clear H hi hc
  go_enter Tryz.func15, Tryz.ntmps15
  go_wp2_with (first | (go_at_call 18; (with_reducible refine CB.out.mono ?_); rintro e w1 ⟨rfl, hb⟩; have B1 := Aside0.mk hb; have R1 := Aside0.mk (HH.out.below hb); clear hb) | (go_at_call 34; (with_reducible refine (subscribe_1 R1.out HC.out).mono ?_); rintro e w2 ⟨s, rfl, hr, hb⟩; have R2 := Aside0.mk hr; have D2 := Aside0.mk ((But.of_below B1.out).trans hb); clear hr hb))
  go_ret
  exact ⟨s, rfl, R2.out, D2.out⟩
set_option maxHeartbeats 2000000 in
theorem ask1 {w : World} {d : Ad} {ps ss : List Int} {m : Nat → TM} (H : Rt w d ps ss m) (hi : (m 1).is = true) (hk : (m 1).kind = 0) (kind t : Int) (h1 : 1 ≤ kind) (h3 : kind ≤ 3) (h0 : 0 ≤ t) (ht : t ≤ 1099511627776) (hp : (m 1).time ≤ t) :
    Calls Tryz.prog 7 #[.pointer (some ⟨d.g, 0, none⟩), .int .i64 1, .int .i64 kind, .int .i64 t] w (Turns d ps ss (mset m 1 { m 1 with kind := kind, ask := t }) w) := by
  have HH := Aside0.mk H
  have CB := Aside0.mk (by1 H hi)
  have HK := Aside0.mk hk
  clear H hi hk
  go_enter Tryz.func7, Tryz.ntmps7
  go_upto_region 5 with (go_at_call 18; (with_reducible refine CB.out.mono ?_); rintro e w1 ⟨rfl, hb⟩; have B1 := Aside0.mk hb; have R1 := Aside0.mk (HH.out.below hb); have z0 := (R1.out.kind1).trans (by rw [HK.out]); have z1 := R1.out.time1; have KK := Aside0.mk (And.intro z0 z1); clear hb)
  go_region_held3 (fun w' => w'.cell? ⟨d.g, 16, none⟩ = some (.int .i64 0) ∧ w'.cell? ⟨d.g, 14, none⟩ = some (.int .i64 (m 1).time)) (go_keep) (first | (go_at_call 20; (with_reducible refine (all4 _ _ _ _ _ _).mono ?_); rintro e w2 ⟨rfl, hb⟩; have B2 := Aside0.mk (below_step B1.out hb); have R2 := Aside0.mk (R1.out.below hb); have z2 := pw_cell_below hb KK.out.1; have z3 := pw_cell_below hb KK.out.2; have zf := R2.out.fz 16; have zg := R2.out.fz 17; have z4 := R2.out.ask1; clear hb))
  go_wp2
  go_ret
  exact ⟨rfl, (R2.out.set 16 _ (m' := mset m 1 { m 1 with kind := kind }) rfl).set 17 _ rfl, ((But.of_below B2.out).set (Or.inl rfl) _).set (Or.inl rfl) _⟩
end Go.Proofs.YtaaaocckfnlgdaaGreatDoorT
