import Derived.Test.YtaaaocckfnlgdaaGreatDoorQE
import Derived.Test.YtaaaocckfnlgdaaGreatDoorQF
import Derived.Test.YtaaaocckfnlgdaaGreatDoorTopP
/- The federation while messages wait in the second member's queue. Printed by wip/top/mkrtq.py. -/
namespace Go.Proofs.YtaaaocckfnlgdaaGreatDoorT
open Go.RowKit Go.Proofs.YtaaaocckfnlgdaaGreatDoorW.PrintWords Go.Proofs.YtaaaocckfnlgdaaGreatDoorH
set_option maxRecDepth 100000
set_option linter.unusedVariables false
set_option linter.unusedSimpArgs false
structure Rq (v : Value) (l : List Mg) (K : Mg → Prop) (w : World) (d : Ad) (ps ss : List Int) (m : Nat → TM) : Prop where
  blk : w.heap[d.g]? = some (.cells (rcells d.P d.bt m d.q) 60 (0, 0))
  tab : Tab w d.bt d.ta d.tm d.ab ps ss
  que : ∀ i, i < 8 → i ≠ 1 → w.heap[d.q i]? = some (.cells #[.int .i64 64, .slice none 0 0, .map (some (d.r i))] 92 (0, 0))
  qu : Qu w (d.q 1) (d.r 1) d.base v l K
  g0 : d.base ≤ d.g
  t0 : d.base ≤ d.bt
  nt : d.bt ≠ d.g
  na : d.ta ≠ d.g
  nq : ∀ i, i < 8 → d.q i ≠ d.g
  nqt : ∀ i, i < 8 → d.q i ≠ d.bt
  hq1 : d.base ≤ d.q 1
  hr1 : d.base ≤ d.r 1
  qd : ∀ i, i < 8 → i ≠ 1 → d.q i ≠ d.q 1
  nqa : d.q 1 ≠ d.ta
  va : some d.ta ≠ v.ownBlock
  ra : d.r 1 ≠ d.ta
  bs : d.base ≤ w.heap.size
  tl : d.ta < w.heap.size
theorem map_ne {w : World} {r : Nat} {p : Mg → Prop} (h : MapOk w r p) {g t : Nat} {cs : Array Value} (hb : w.heap[g]? = some (.cells cs t (0, 0))) : r ≠ g := fun e => by
  obtain ⟨es, c, h1, _⟩ := h
  rw [e, hb] at h1
  cases h1
section
variable {v : Value} {l : List Mg} {K : Mg → Prop} {w : World} {d : Ad} {ps ss : List Int} {m : Nat → TM}
theorem Rq.below {w' : World} (H : Rq v l K w d ps ss m) (h : Below w.heap.size w w') : Rq v l K w' d ps ss m :=
  { H with
    blk := blk_below H.blk h
    tab := H.tab.below h
    que := fun i hi hn => blk_below (H.que i hi hn) h
    qu := H.qu.below h
    bs := Nat.le_trans H.bs h.size
    tl := Nat.lt_of_lt_of_le H.tl h.size }
theorem Rq.drew (H : Rq v l K w d ps ss m) : Rq v l K w.drew d ps ss m := H.below (below_drew (Below.refl _ _))
theorem Rq.rg (H : Rq v l K w d ps ss m) : d.r 1 ≠ d.g := map_ne H.qu.map H.blk
theorem Rq.rt (H : Rq v l K w d ps ss m) : d.r 1 ≠ d.bt := map_ne H.qu.map H.tab.blk
theorem Rq.vg (H : Rq v l K w d ps ss m) : some d.g ≠ v.ownBlock := Kd.R_ne H.qu.row H.blk (by decide)
theorem Rq.vt (H : Rq v l K w d ps ss m) : some d.bt ≠ v.ownBlock := Kd.R_ne H.qu.row H.tab.blk (by decide)
theorem Rq.set (H : Rq v l K w d ps ss m) (k : Nat) (x : Value) {m' : Nat → TM} (h : (rcells d.P d.bt m d.q).setIfInBounds k x = rcells d.P d.bt m' d.q) : Rq v l K (w.setCell ⟨d.g, k, none⟩ x) d ps ss m' :=
  have hb := But.set (S := fun b => b = d.g) (But.refl _ w) (p := ⟨d.g, k, none⟩) rfl x
  { H with
    blk := blk_put H.blk k x h
    tab := H.tab.but (S := fun b => b = d.g) hb H.nt H.na
    que := fun i hi hn => blk_far (H.que i hi hn) (p := ⟨d.g, k, none⟩) (H.nq i hi) x
    qu := H.qu.but hb (H.nq 1 (by omega)) H.rg (fun k hk e => H.vg (by rw [← e]; exact hk.symm))
    bs := Nat.le_trans H.bs hb.size
    tl := Nat.lt_of_lt_of_le H.tl hb.size }
/-- The queue has turned. -/
theorem Rq.queue {w' : World} {v' : Value} {l' : List Mg} {K' : Mg → Prop} (H : Rq v l K w d ps ss m) (hq : Qu w' (d.q 1) (d.r 1) d.base v' l' K') (hb : But (Zq (d.q 1) (d.r 1) v) w w') (hv : v'.ownBlock = v.ownBlock ∨ ∃ k, v'.ownBlock = some k ∧ w.heap.size ≤ k) : Rq v' l' K' w' d ps ss m :=
  { H with
    blk := hb.blk H.blk (fun h => h.elim (fun e => H.nq 1 (by omega) e.symm) (fun h => h.elim (fun e => H.rg e.symm) H.vg))
    tab := H.tab.but hb (fun h => h.elim (fun e => H.nqt 1 (by omega) e.symm) (fun h => h.elim (fun e => H.rt e.symm) H.vt)) (fun h => h.elim (fun e => H.nqa e.symm) (fun h => h.elim (fun e => H.ra e.symm) H.va))
    que := fun i hi hn => hb.blk (H.que i hi hn) (fun h => h.elim (H.qd i hi hn) (fun h => h.elim (fun e => map_ne H.qu.map (H.que i hi hn) e.symm) (Kd.R_ne H.qu.row (H.que i hi hn) (by decide))))
    qu := hq
    va := fun e => hv.elim (fun h => H.va (e.trans h)) (fun ⟨k, h1, h2⟩ => by
      rw [h1] at e
      cases e
      have := H.tl
      omega)
    bs := Nat.le_trans H.bs hb.size
    tl := Nat.lt_of_lt_of_le H.tl hb.size }
end
section
variable {v : Value} {l : List Mg} {K : Mg → Prop} {w : World} {d : Ad} {ps ss : List Int} {m : Nat → TM} (H : Rq v l K w d ps ss m)
include H
theorem Rq.saving : w.cell? ⟨d.g, 82, none⟩ = some (.bool false) := (blk_cell H.blk 82).trans rfl
theorem Rq.tabp : w.cell? ⟨d.g, 1, none⟩ = some (.pointer (some ⟨d.bt, 0, none⟩)) := (blk_cell H.blk 1).trans rfl
theorem Rq.fz (k : Nat) : w.frozen? ⟨d.g, k, none⟩ = false := blk_frozen H.blk k
theorem Rq.is0 : w.cell? ⟨d.g, 2, none⟩ = some (.bool (m 0).is) := (blk_cell H.blk 2).trans rfl
theorem Rq.con0 : w.cell? ⟨d.g, 3, none⟩ = some (.bool (m 0).con) := (blk_cell H.blk 3).trans rfl
theorem Rq.time0 : w.cell? ⟨d.g, 4, none⟩ = some (.int .i64 (m 0).time) := (blk_cell H.blk 4).trans rfl
theorem Rq.look0 : w.cell? ⟨d.g, 5, none⟩ = some (.int .i64 (m 0).look) := (blk_cell H.blk 5).trans rfl
theorem Rq.kind0 : w.cell? ⟨d.g, 6, none⟩ = some (.int .i64 (m 0).kind) := (blk_cell H.blk 6).trans rfl
theorem Rq.ask0 : w.cell? ⟨d.g, 7, none⟩ = some (.int .i64 (m 0).ask) := (blk_cell H.blk 7).trans rfl
theorem Rq.sent0 : w.cell? ⟨d.g, 8, none⟩ = some (.int .i64 (m 0).sent) := (blk_cell H.blk 8).trans rfl
theorem Rq.q0 : w.cell? ⟨d.g, 9, none⟩ = some (.pointer (some ⟨d.q 0, 0, none⟩)) := (blk_cell H.blk 9).trans rfl
theorem Rq.plain0 : w.cell? ⟨d.g, 10, none⟩ = some (.slice none 0 0) := (blk_cell H.blk 10).trans rfl
theorem Rq.subs0 : w.cell? ⟨d.g, 11, none⟩ = some (.int .u32 (m 0).subs) := (blk_cell H.blk 11).trans rfl
theorem Rq.is1 : w.cell? ⟨d.g, 12, none⟩ = some (.bool (m 1).is) := (blk_cell H.blk 12).trans rfl
theorem Rq.con1 : w.cell? ⟨d.g, 13, none⟩ = some (.bool (m 1).con) := (blk_cell H.blk 13).trans rfl
theorem Rq.time1 : w.cell? ⟨d.g, 14, none⟩ = some (.int .i64 (m 1).time) := (blk_cell H.blk 14).trans rfl
theorem Rq.look1 : w.cell? ⟨d.g, 15, none⟩ = some (.int .i64 (m 1).look) := (blk_cell H.blk 15).trans rfl
theorem Rq.kind1 : w.cell? ⟨d.g, 16, none⟩ = some (.int .i64 (m 1).kind) := (blk_cell H.blk 16).trans rfl
theorem Rq.ask1 : w.cell? ⟨d.g, 17, none⟩ = some (.int .i64 (m 1).ask) := (blk_cell H.blk 17).trans rfl
theorem Rq.sent1 : w.cell? ⟨d.g, 18, none⟩ = some (.int .i64 (m 1).sent) := (blk_cell H.blk 18).trans rfl
theorem Rq.q1 : w.cell? ⟨d.g, 19, none⟩ = some (.pointer (some ⟨d.q 1, 0, none⟩)) := (blk_cell H.blk 19).trans rfl
theorem Rq.plain1 : w.cell? ⟨d.g, 20, none⟩ = some (.slice none 0 0) := (blk_cell H.blk 20).trans rfl
theorem Rq.subs1 : w.cell? ⟨d.g, 21, none⟩ = some (.int .u32 (m 1).subs) := (blk_cell H.blk 21).trans rfl
end

set_option maxHeartbeats 1000000 in
theorem qby0 {v : Value} {l : List Mg} {K : Mg → Prop} {w : World} {d : Ad} {ps ss : List Int} {m : Nat → TM} (H : Rq v l K w d ps ss m) (hi : (m 0).is = true) :
    Calls Tryz.prog 18 #[.pointer (some ⟨d.g, 0, none⟩), .int .i64 0] w fun e w' => e = .returned .nilIface ∧ Below w.heap.size w w' := by
  have k0 := H.is0
  have k1 := H.saving
  rw [hi] at k0
  clear H hi
  have KK := Aside0.mk (And.intro k0 k1)
  go_enter Tryz.func18, Tryz.ntmps18
  go_upto_region 3 with (fail)
  go_region_held3 (fun w' => w'.cell? ⟨d.g, 2, none⟩ = some (.bool true) ∧ w'.cell? ⟨d.g, 82, none⟩ = some (.bool false)) (go_keep) (first | (go_at_call 20; (with_reducible refine (all2 _ _ _ _).mono ?_); rintro e w1 ⟨rfl, hb⟩; have B1 := Aside0.mk hb; have z0 := pw_cell_below hb KK.out.1; have z1 := pw_cell_below hb KK.out.2; clear hb))
  go_wp2
  go_ret
  exact ⟨rfl, B1.out⟩

set_option maxHeartbeats 1000000 in
theorem qby1 {v : Value} {l : List Mg} {K : Mg → Prop} {w : World} {d : Ad} {ps ss : List Int} {m : Nat → TM} (H : Rq v l K w d ps ss m) (hi : (m 1).is = true) :
    Calls Tryz.prog 18 #[.pointer (some ⟨d.g, 0, none⟩), .int .i64 1] w fun e w' => e = .returned .nilIface ∧ Below w.heap.size w w' := by
  have k0 := H.is1
  have k1 := H.saving
  rw [hi] at k0
  clear H hi
  have KK := Aside0.mk (And.intro k0 k1)
  go_enter Tryz.func18, Tryz.ntmps18
  go_upto_region 3 with (fail)
  go_region_held3 (fun w' => w'.cell? ⟨d.g, 12, none⟩ = some (.bool true) ∧ w'.cell? ⟨d.g, 82, none⟩ = some (.bool false)) (go_keep) (first | (go_at_call 20; (with_reducible refine (all2 _ _ _ _).mono ?_); rintro e w1 ⟨rfl, hb⟩; have B1 := Aside0.mk hb; have z0 := pw_cell_below hb KK.out.1; have z1 := pw_cell_below hb KK.out.2; clear hb))
  go_wp2
  go_ret
  exact ⟨rfl, B1.out⟩

/-- What a call comes to that goes well. -/
def TurnsQ (v : Value) (l : List Mg) (K : Mg → Prop) (d : Ad) (ps ss : List Int) (m : Nat → TM) (w : World) (e : Ending) (w' : World) : Prop := e = .returned (.int .i64 0) ∧ Rq v l K w' d ps ss m ∧ But (fun k => k = d.g ∨ k = d.bt) w w'
set_option maxHeartbeats 2000000 in
theorem qask0 {v : Value} {l : List Mg} {K : Mg → Prop} {w : World} {d : Ad} {ps ss : List Int} {m : Nat → TM} (H : Rq v l K w d ps ss m) (hi : (m 0).is = true) (hk : (m 0).kind = 0) (kind t : Int) (h1 : 1 ≤ kind) (h3 : kind ≤ 3) (h0 : 0 ≤ t) (ht : t ≤ 1099511627776) (hp : (m 0).time ≤ t) :
    Calls Tryz.prog 7 #[.pointer (some ⟨d.g, 0, none⟩), .int .i64 0, .int .i64 kind, .int .i64 t] w (TurnsQ v l K d ps ss (mset m 0 { m 0 with kind := kind, ask := t }) w) := by
  have HH := Aside0.mk H
  have CB := Aside0.mk (qby0 H hi)
  have HK := Aside0.mk hk
  clear H hi hk
  go_enter Tryz.func7, Tryz.ntmps7
  go_upto_region 5 with (go_at_call 18; (with_reducible refine CB.out.mono ?_); rintro e w1 ⟨rfl, hb⟩; have B1 := Aside0.mk hb; have R1 := Aside0.mk (HH.out.below hb); have z0 := (R1.out.kind0).trans (by rw [HK.out]); have z1 := R1.out.time0; have KK := Aside0.mk (And.intro z0 z1); clear hb)
  go_region_held3 (fun w' => w'.cell? ⟨d.g, 6, none⟩ = some (.int .i64 0) ∧ w'.cell? ⟨d.g, 4, none⟩ = some (.int .i64 (m 0).time)) (go_keep) (first | (go_at_call 20; (with_reducible refine (all4 _ _ _ _ _ _).mono ?_); rintro e w2 ⟨rfl, hb⟩; have B2 := Aside0.mk (below_step B1.out hb); have R2 := Aside0.mk (R1.out.below hb); have z2 := pw_cell_below hb KK.out.1; have z3 := pw_cell_below hb KK.out.2; have zf := R2.out.fz 6; have zg := R2.out.fz 7; have z4 := R2.out.ask0; clear hb))
  go_wp2
  go_ret
  exact ⟨rfl, (R2.out.set 6 _ (m' := mset m 0 { m 0 with kind := kind }) rfl).set 7 _ rfl, ((But.of_below B2.out).set (Or.inl rfl) _).set (Or.inl rfl) _⟩

set_option maxHeartbeats 2000000 in
theorem qask1 {v : Value} {l : List Mg} {K : Mg → Prop} {w : World} {d : Ad} {ps ss : List Int} {m : Nat → TM} (H : Rq v l K w d ps ss m) (hi : (m 1).is = true) (hk : (m 1).kind = 0) (kind t : Int) (h1 : 1 ≤ kind) (h3 : kind ≤ 3) (h0 : 0 ≤ t) (ht : t ≤ 1099511627776) (hp : (m 1).time ≤ t) :
    Calls Tryz.prog 7 #[.pointer (some ⟨d.g, 0, none⟩), .int .i64 1, .int .i64 kind, .int .i64 t] w (TurnsQ v l K d ps ss (mset m 1 { m 1 with kind := kind, ask := t }) w) := by
  have HH := Aside0.mk H
  have CB := Aside0.mk (qby1 H hi)
  have HK := Aside0.mk hk
  clear H hi hk
  go_enter Tryz.func7, Tryz.ntmps7
  go_upto_region 5 with (go_at_call 18; (with_reducible refine CB.out.mono ?_); rintro e w1 ⟨rfl, hb⟩; have B1 := Aside0.mk hb; have R1 := Aside0.mk (HH.out.below hb); have z0 := (R1.out.kind1).trans (by rw [HK.out]); have z1 := R1.out.time1; have KK := Aside0.mk (And.intro z0 z1); clear hb)
  go_region_held3 (fun w' => w'.cell? ⟨d.g, 16, none⟩ = some (.int .i64 0) ∧ w'.cell? ⟨d.g, 14, none⟩ = some (.int .i64 (m 1).time)) (go_keep) (first | (go_at_call 20; (with_reducible refine (all4 _ _ _ _ _ _).mono ?_); rintro e w2 ⟨rfl, hb⟩; have B2 := Aside0.mk (below_step B1.out hb); have R2 := Aside0.mk (R1.out.below hb); have z2 := pw_cell_below hb KK.out.1; have z3 := pw_cell_below hb KK.out.2; have zf := R2.out.fz 16; have zg := R2.out.fz 17; have z4 := R2.out.ask1; clear hb))
  go_wp2
  go_ret
  exact ⟨rfl, (R2.out.set 16 _ (m' := mset m 1 { m 1 with kind := kind }) rfl).set 17 _ rfl, ((But.of_below B2.out).set (Or.inl rfl) _).set (Or.inl rfl) _⟩
end Go.Proofs.YtaaaocckfnlgdaaGreatDoorT
/- The members as package lbts sees them while messages wait for the second one; bounds. Printed by wip/top/mkmemq.py. -/
namespace Go.Proofs.YtaaaocckfnlgdaaGreatDoorT
open Go.RowKit Go.Proofs.YtaaaocckfnlgdaaGreatDoorW.PrintWords Go.Proofs.YtaaaocckfnlgdaaGreatDoorW.PrintLast Go.Proofs.YtaaaocckfnlgdaaGreatDoorW.PrintMore Go.Proofs.YtaaaocckfnlgdaaGreatDoorL Go.Proofs.YtaaaocckfnlgdaaGreatDoor.PBase Go.Proofs.YtaaaocckfnlgdaaGreatDoorH
set_option maxRecDepth 100000
set_option linter.unusedVariables false
set_option linter.unusedSimpArgs false
set_option maxHeartbeats 1000000 in
theorem first_zero (A : Option Addr) (c : Nat) (q r : Nat) (w : World) (h : w.heap[q]? = some (.cells #[.int .i64 64, .slice A 0 c, .map (some r)] 92 (0, 0))) :
    Calls Tryz.prog 52 #[.pointer (some ⟨q, 0, none⟩)] w fun e w' => e = .returned (.tuple #[.agg #[.int .i64 0, .int .i64 0, .int .i64 0, .int .i64 0, .int .i64 0, .int .i64 0], .bool false]) ∧ Below w.heap.size w w' := by
  have k1 : w.cell? ⟨q, 1, none⟩ = some (.slice A 0 c) := (blk_cell h 1).trans rfl
  have k2 : (w.alloc (.cells #[.int .i64 0, .int .i64 0, .int .i64 0, .int .i64 0, .int .i64 0, .int .i64 0] 41 (0, 0))).cell? ⟨q, 1, none⟩ = some (.slice A 0 c) := pw_cell_below (below_alloc (Below.refl _ w) _) k1
  clear h
  go_enter Tryz.func52, Tryz.ntmps52
  go_wp2
  (try simp only [Exit.inBlock, Exit.then])
  refine bodyPost_ret (results_list (rs := [.cell 2 41, .tmp 3]) rfl (by simp) (.cell w.heap.size 41 #[.int .i64 0, .int .i64 0, .int .i64 0, .int .i64 0, .int .i64 0, .int .i64 0] (0, 0) _ rfl (blk_new w _) Tryz.underlying41 rfl (by kernel_rfl) (.tmp .nil))) rfl ?_
  exact ⟨rfl, below_alloc (Below.refl _ w) _⟩

theorem rrowq_at {v : Value} {l : List Mg} {K : Mg → Prop} {w : World} {d : Ad} {ps ss : List Int} {m : Nat → TM} (H : Rq v l K w d ps ss m) : w.rangeAt d.g 2 (rrow m d.q) := fun j u hv => by
  have hj : j < 80 := (List.getElem?_eq_some_iff.1 hv).1
  refine (blk_cell H.blk (2 + j)).trans ?_
  rw [rcells_eq, List.getElem?_toArray, show 2 + j = j + 1 + 1 by omega, List.getElem?_cons_succ, List.getElem?_cons_succ, List.getElem?_append_left hj]
  exact hv
theorem wp_load_rowsq {v : Value} {l : List Mg} {K : Mg → Prop} {w : World} {d : Ad} {ps ss : List Int} {m : Nat → TM} (H : Rq v l K w d ps ss m) {op : Oper} {a : Act} {K : Act → World → Prop} {Q : Exit → Act → World → Prop} (x : Operand) (ho : op.op = .load 58 x)
    (hx : a.eval x = .pointer (some ⟨d.g, 2, none⟩)) (h : K (a.put op.dst (rows m d.q)) w) : op.wp Tryz.prog a w K Q :=
  wp_load_mid 58 x ho d.g 2 hx (rrow m d.q) _ (rrowq_at H) Tryz.underlying58 rfl (by kernel_rfl) h
def memF (x : TM) (f : Int) : S108 := ⟨decide (0 < x.look), x.con, x.time, x.look, x.kind, x.ask, f⟩
/-- The first k members; the second one's first message has time F. -/
def memLq (m : Nat → TM) (F : Int) : Nat → List S108
  | 0 => []
  | k + 1 => memLq m F k ++ [memF (m k) (if k = 1 then F else 1125899906842624)]
theorem memLq_len (m : Nat → TM) (F : Int) : ∀ k, (memLq m F k).length = k
  | 0 => rfl
  | k + 1 => by simp [memLq, memLq_len m F k]
/-- The time of the first message that waits. -/
def frs (l : List Mg) : Int := if l = [] then 1125899906842624 else (g l 0).1
set_option maxHeartbeats 4000000 in
theorem membersq_calls {v : Value} {l : List Mg} {K : Mg → Prop} {w : World} {d : Ad} {ps ss : List Int} {m : Nat → TM} (H : Rq v l K w d ps ss m) :
    Calls Tryz.prog 28 #[.pointer (some ⟨d.g, 0, none⟩)] w fun e w' => ∃ u, e = .returned u ∧ Kd.R k108 108 w' w.heap.size (fun _ => True) u (memLq m (frs l) 8) ∧ Below w.heap.size w w' := by
  have HH := Aside0.mk H
  have hix := Aside0.mk (idxM m d.q)
  clear H
  go_enter Tryz.func28, Tryz.ntmps28
  go_wp2
  refine wp_load_rowsq HH.out (.tmp 11) rfl rfl ?_
  generalize rows m d.q = A at hix ⊢
  go_wp2
  go_loopw [3, 13] (fun v3 v13 wr => ∃ k : Nat, k ≤ 8 ∧ v13 = .int .i64 k ∧ Aside0 (Kd.R k108 108 wr w.heap.size (fun _ => True) v3 (memLq m (frs l) k)) ∧ Aside0 (Below w.heap.size w wr)) (fun _ k _ => 8 - (intOf k).toNat)
  case atStart => exact ⟨0, by omega, rfl, ⟨Kd.R_nil _ _ _ _ _⟩, ⟨Below.refl _ _⟩⟩
  case round =>
    obtain ⟨k, hk, rfl, HO, BW⟩ := hrel
    obtain ⟨Av, cv, rfl⟩ := Kd.R_slice HO.out
    have hk0 : (0 : Int) ≤ (k : Int) := by omega
    by_cases hlt : k < 8
    · have hlt1 : (k : Int) < 8 := by omega
      have hx := hix.out k hlt
      by_cases hq : k = 1 ∧ l ≠ []
      · obtain ⟨hk1, hne⟩ := hq
        have HF := Aside0.mk (show (if k = 1 then frs l else 1125899906842624) = (g l 0).1 from by rw [if_pos hk1]; exact if_neg hne)
        have cf : ∀ W, Below wr.heap.size wr W → Calls Tryz.prog 52 #[.pointer (some ⟨d.q k, 0, none⟩)] W fun e w' => e = .returned (.tuple #[mvv (g l 0), .bool true]) ∧ Below W.heap.size W w' := fun W hW => by
          rw [hk1]
          exact qfirst_calls (HH.out.qu.below (below_step BW.out hW)) (List.length_pos_iff.2 hne)
        unfold mvv at cf
        have CF := Aside0.mk cf
        clear cf hne hk1
        go_upto_region 6 with (fail)
        have N1 := Aside0.mk (show (wr.alloc (.cells #[.bool (m k).is, .bool (m k).con, .int .i64 (m k).time, .int .i64 (m k).look, .int .i64 (m k).kind, .int .i64 (m k).ask, .int .i64 (m k).sent, .pointer (some ⟨d.q k, 0, none⟩), .slice none 0 0, .int .u32 (m k).subs] 56 (0, 0))).heap[wr.heap.size]? = some (.cells #[.bool (m k).is, .bool (m k).con, .int .i64 (m k).time, .int .i64 (m k).look, .int .i64 (m k).kind, .int .i64 (m k).ask, .int .i64 (m k).sent, .pointer (some ⟨d.q k, 0, none⟩), .slice none 0 0, .int .u32 (m k).subs] 56 (0, 0)) from blk_new wr _)
        have E1 := Aside0.mk (show Below wr.heap.size wr (wr.alloc (.cells #[.bool (m k).is, .bool (m k).con, .int .i64 (m k).time, .int .i64 (m k).look, .int .i64 (m k).kind, .int .i64 (m k).ask, .int .i64 (m k).sent, .pointer (some ⟨d.q k, 0, none⟩), .slice none 0 0, .int .u32 (m k).subs] 56 (0, 0))) from below_alloc (Below.refl _ _) _)
        generalize (wr.alloc (.cells #[.bool (m k).is, .bool (m k).con, .int .i64 (m k).time, .int .i64 (m k).look, .int .i64 (m k).kind, .int .i64 (m k).ask, .int .i64 (m k).sent, .pointer (some ⟨d.q k, 0, none⟩), .slice none 0 0, .int .u32 (m k).subs] 56 (0, 0))) = W1 at N1 E1 ⊢
        have n7 := (blk_cell N1.out 7).trans rfl
        go_upto_region 7 with (go_at_call 52; (with_reducible refine (CF.out _ E1.out).mono ?_); rintro e w2 ⟨rfl, hb⟩; have E2 := Aside0.mk (below_step E1.out hb); have N2 := Aside0.mk (blk_below N1.out hb); clear hb n7)
        have N3 := Aside0.mk (show (w2.alloc (.cells #[.int .i64 (g l 0).1, .int .i64 0, .int .i64 (g l 0).2, .int .i64 1, .int .i64 0, .int .i64 (g l 0).2] 41 (0, 0))).heap[wr.heap.size]? = some (.cells #[.bool (m k).is, .bool (m k).con, .int .i64 (m k).time, .int .i64 (m k).look, .int .i64 (m k).kind, .int .i64 (m k).ask, .int .i64 (m k).sent, .pointer (some ⟨d.q k, 0, none⟩), .slice none 0 0, .int .u32 (m k).subs] 56 (0, 0)) from blk_alloc N2.out _)
        have E3 := Aside0.mk (show Below wr.heap.size wr (w2.alloc (.cells #[.int .i64 (g l 0).1, .int .i64 0, .int .i64 (g l 0).2, .int .i64 1, .int .i64 0, .int .i64 (g l 0).2] 41 (0, 0))) from below_alloc E2.out _)
        have V3 := Aside0.mk (blk_new w2 (.cells #[.int .i64 (g l 0).1, .int .i64 0, .int .i64 (g l 0).2, .int .i64 1, .int .i64 0, .int .i64 (g l 0).2] 41 (0, 0)))
        generalize (w2.alloc (.cells #[.int .i64 (g l 0).1, .int .i64 0, .int .i64 (g l 0).2, .int .i64 1, .int .i64 0, .int .i64 (g l 0).2] 41 (0, 0))) = W3 at N3 E3 V3 ⊢
        generalize w2.heap.size = g3 at V3 ⊢
        have n1 := (blk_cell N3.out 1).trans rfl
        have v0 : W3.cell? ⟨g3, 0, none⟩ = some (.int .i64 (g l 0).1) := (blk_cell V3.out 0).trans rfl
        have n2 := (blk_cell N3.out 2).trans rfl
        have n3 := (blk_cell N3.out 3).trans rfl
        have n4 := (blk_cell N3.out 4).trans rfl
        have n5 := (blk_cell N3.out 5).trans rfl
        have HB3 := Aside0.mk (below_step BW.out E3.out)
        have HO3 := Aside0.mk (Kd.R_step HO.out (fun k _ hlt => E3.out.block k hlt))
        have HL := memLq_len m (frs l) k
        go_wp2_with ((with_reducible refine gate_builtin (b := .append) (xs := #[.tmp 26, .tmp 42]) rfl ?_); at_builtin; refine Kd.R_append k108 (w0 := w) w.heap.size rfl (.tmp 26) (.tmp 42) 73 108 _ 48 rfl Tryz.underlying73 memInfo rfl (show 0 < 7 by decide) (by omega) _ (memLq m (frs l) k) (memF (m k) (g l 0).1) [.bool (decide (0 < (m k).look)), .bool (m k).con, .int .i64 (m k).time, .int .i64 (m k).look, .int .i64 (m k).kind, .int .i64 (m k).ask, .int .i64 (g l 0).1] (fun _ => True) (fun _ => False) rfl rfl (k108_mkM _ _ _ (memF (m k) (g l 0).1)) (fun _ hk => hk.elim) (fun _ _ => trivial) HO3.out HB3.out HB3.out.size (by rw [HL]; omega) ?_; intro v4 w4 ho hb hg hat; clear hg hat; have HO4 := Aside0.mk ho; have HB4 := Aside0.mk hb; clear ho hb)
        go_roundw
        case rel => exact ⟨k + 1, by omega, by go_num, ⟨by have h := HO4.out; rw [← HF.out] at h; exact h⟩, HB4⟩
        case measure => simp [intOf]; omega
      · have HF := Aside0.mk (show (if k = 1 then frs l else 1125899906842624) = 1125899906842624 from by
          by_cases h1 : k = 1
          · rw [if_pos h1]
            unfold frs
            rw [if_pos (by
              by_cases h2 : l = []
              · exact h2
              · exact absurd ⟨h1, h2⟩ hq)]
          · rw [if_neg h1])
        have CF := Aside0.mk (show ∀ W, Below wr.heap.size wr W → Calls Tryz.prog 52 #[.pointer (some ⟨d.q k, 0, none⟩)] W fun e w' => e = .returned (.tuple #[.agg #[.int .i64 0, .int .i64 0, .int .i64 0, .int .i64 0, .int .i64 0, .int .i64 0], .bool false]) ∧ Below W.heap.size W w' from fun W hW => by
          by_cases h1 : k = 1
          · have h2 : l = [] := by
              by_cases h2 : l = []
              · exact h2
              · exact absurd ⟨h1, h2⟩ hq
            rw [h1]
            have hb := (HH.out.qu.below (below_step BW.out hW)).blk
            obtain ⟨A, c, hv⟩ := Kd.R_slice HH.out.qu.row
            rw [hv, h2] at hb
            exact first_zero A c (d.q 1) (d.r 1) W hb
          · exact first_none (d.q k) (d.r k) W (blk_below (blk_below (HH.out.que k hlt h1) BW.out) hW))
        clear hq
        go_upto_region 6 with (fail)
        have N1 := Aside0.mk (show (wr.alloc (.cells #[.bool (m k).is, .bool (m k).con, .int .i64 (m k).time, .int .i64 (m k).look, .int .i64 (m k).kind, .int .i64 (m k).ask, .int .i64 (m k).sent, .pointer (some ⟨d.q k, 0, none⟩), .slice none 0 0, .int .u32 (m k).subs] 56 (0, 0))).heap[wr.heap.size]? = some (.cells #[.bool (m k).is, .bool (m k).con, .int .i64 (m k).time, .int .i64 (m k).look, .int .i64 (m k).kind, .int .i64 (m k).ask, .int .i64 (m k).sent, .pointer (some ⟨d.q k, 0, none⟩), .slice none 0 0, .int .u32 (m k).subs] 56 (0, 0)) from blk_new wr _)
        have E1 := Aside0.mk (show Below wr.heap.size wr (wr.alloc (.cells #[.bool (m k).is, .bool (m k).con, .int .i64 (m k).time, .int .i64 (m k).look, .int .i64 (m k).kind, .int .i64 (m k).ask, .int .i64 (m k).sent, .pointer (some ⟨d.q k, 0, none⟩), .slice none 0 0, .int .u32 (m k).subs] 56 (0, 0))) from below_alloc (Below.refl _ _) _)
        generalize (wr.alloc (.cells #[.bool (m k).is, .bool (m k).con, .int .i64 (m k).time, .int .i64 (m k).look, .int .i64 (m k).kind, .int .i64 (m k).ask, .int .i64 (m k).sent, .pointer (some ⟨d.q k, 0, none⟩), .slice none 0 0, .int .u32 (m k).subs] 56 (0, 0))) = W1 at N1 E1 ⊢
        have n7 := (blk_cell N1.out 7).trans rfl
        go_upto_region 9 with (go_at_call 52; (with_reducible refine (CF.out _ E1.out).mono ?_); rintro e w2 ⟨rfl, hb⟩; have E2 := Aside0.mk (below_step E1.out hb); have N2 := Aside0.mk (blk_below N1.out hb); clear hb n7)
        have N3 := Aside0.mk (show (w2.alloc (.cells #[.int .i64 0, .int .i64 0, .int .i64 0, .int .i64 0, .int .i64 0, .int .i64 0] 41 (0, 0))).heap[wr.heap.size]? = some (.cells #[.bool (m k).is, .bool (m k).con, .int .i64 (m k).time, .int .i64 (m k).look, .int .i64 (m k).kind, .int .i64 (m k).ask, .int .i64 (m k).sent, .pointer (some ⟨d.q k, 0, none⟩), .slice none 0 0, .int .u32 (m k).subs] 56 (0, 0)) from blk_alloc N2.out _)
        have E3 := Aside0.mk (show Below wr.heap.size wr (w2.alloc (.cells #[.int .i64 0, .int .i64 0, .int .i64 0, .int .i64 0, .int .i64 0, .int .i64 0] 41 (0, 0))) from below_alloc E2.out _)
        generalize (w2.alloc (.cells #[.int .i64 0, .int .i64 0, .int .i64 0, .int .i64 0, .int .i64 0, .int .i64 0] 41 (0, 0))) = W3 at N3 E3 ⊢
        have n1 := (blk_cell N3.out 1).trans rfl
        have n2 := (blk_cell N3.out 2).trans rfl
        have n3 := (blk_cell N3.out 3).trans rfl
        have n4 := (blk_cell N3.out 4).trans rfl
        have n5 := (blk_cell N3.out 5).trans rfl
        have HB3 := Aside0.mk (below_step BW.out E3.out)
        have HO3 := Aside0.mk (Kd.R_step HO.out (fun k _ hlt => E3.out.block k hlt))
        have HL := memLq_len m (frs l) k
        go_wp2_with ((with_reducible refine gate_builtin (b := .append) (xs := #[.tmp 26, .tmp 42]) rfl ?_); at_builtin; refine Kd.R_append k108 (w0 := w) w.heap.size rfl (.tmp 26) (.tmp 42) 73 108 _ 48 rfl Tryz.underlying73 memInfo rfl (show 0 < 7 by decide) (by omega) _ (memLq m (frs l) k) (memF (m k) 1125899906842624) [.bool (decide (0 < (m k).look)), .bool (m k).con, .int .i64 (m k).time, .int .i64 (m k).look, .int .i64 (m k).kind, .int .i64 (m k).ask, .int .i64 1125899906842624] (fun _ => True) (fun _ => False) rfl rfl (k108_mkM _ _ _ (memF (m k) 1125899906842624)) (fun _ hk => hk.elim) (fun _ _ => trivial) HO3.out HB3.out HB3.out.size (by rw [HL]; omega) ?_; intro v4 w4 ho hb hg hat; clear hg hat; have HO4 := Aside0.mk ho; have HB4 := Aside0.mk hb; clear ho hb)
        go_roundw
        case rel => exact ⟨k + 1, by omega, by go_num, ⟨by have h := HO4.out; rw [← HF.out] at h; exact h⟩, HB4⟩
        case measure => simp [intOf]; omega
    · obtain rfl : k = 8 := by omega
      go_wp2
      go_ret
      exact ⟨_, rfl, HO.out, BW.out⟩
set_option maxHeartbeats 1000000 in
theorem boundq_calls {v : Value} {l : List Mg} {K : Mg → Prop} {w : World} {d : Ad} {ps ss : List Int} {m : Nat → TM} (H : Rq v l K w d ps ss m) (f b : Int) (hb : lbts_Lbts.f 9 (memLq m (frs l) 8) f = some b) :
    Calls Tryz.prog 21 #[.pointer (some ⟨d.g, 0, none⟩), .int .i64 f] w fun e w' => e = .returned (.int .i64 b) ∧ Below w.heap.size w w' := by
  have CM := Aside0.mk (membersq_calls H)
  have CL := Aside0.mk (fun A c W h1 h2 => lbts_Lbts.calls 9 A c (memLq m (frs l) 8) f b W h1 h2 hb)
  clear H hb
  go_enter Tryz.func21, Tryz.ntmps21
  go_wp2_with (first | (go_at_call 28; (with_reducible refine CM.out.mono ?_); rintro e w1 ⟨u, rfl, ho, hb⟩; obtain ⟨A1, c1, rfl⟩ := Kd.R_slice ho; have O1 := Aside0.mk (Kd.R_reads' ho); have B1 := Aside0.mk hb; clear ho hb) | (go_at_call 38; (with_reducible refine (CL.out _ _ _ O1.out.2.2 O1.out.2.1).mono ?_); rintro e w2 ⟨rfl, hb⟩; have B2 := Aside0.mk (below_step B1.out hb); clear hb))
  go_ret
  exact ⟨rfl, B2.out⟩

end Go.Proofs.YtaaaocckfnlgdaaGreatDoorT
/- Plain: the second one's bound, and the first one's output, while messages wait. -/
namespace Go.Proofs.YtaaaocckfnlgdaaGreatDoorT
open Go.RowKit Go.Proofs.YtaaaocckfnlgdaaGreatDoorW.PrintWords Go.Proofs.YtaaaocckfnlgdaaGreatDoorW.PrintMore Go.Proofs.YtaaaocckfnlgdaaGreatDoorL Go.Proofs.YtaaaocckfnlgdaaGreatDoor.PBase
set_option linter.unusedVariables false
set_option linter.unusedSimpArgs false
theorem memLq_at (m : Nat → TM) (F : Int) : ∀ k, k < 8 → (memLq m F 8).getD k zM = memF (m k) (if k = 1 then F else 1125899906842624)
  | 0, _ => rfl
  | 1, _ => rfl
  | 2, _ => rfl
  | 3, _ => rfl
  | 4, _ => rfl
  | 5, _ => rfl
  | 6, _ => rfl
  | 7, _ => rfl
theorem sysq (m : Nat → TM) (F : Int) (hk : (m 0).kind = 0 ∨ (m 0).kind = 1) (h1 : 1 ≤ (m 0).look) (h2 : (m 0).look ≤ 1048576) (h3 : 0 ≤ basis (m 0)) (h4 : basis (m 0) ≤ 1000000) :
    ∃ r, lbts_Outputs.f (memLq m F 8) = some r ∧ r.length = 8 ∧ r.getD 0 0 = basis (m 0) + (m 0).look ∧ (∀ k, k < 8 → (sysOf (memLq m F 8)).reg k = decide (0 < (m k).look)) := by
  have hl := memLq_len m F 8
  obtain ⟨r, hf, hr, hS⟩ := outputs_tells (memLq m F 8) (by rw [hl]; omega)
  have er : ∀ k, k < 8 → (sysOf (memLq m F 8)).reg k = decide (0 < (m k).look) := fun k hk => by
    show ((memLq m F 8).getD k zM).f0 = _
    rw [memLq_at m F k hk]
    rfl
  refine ⟨r, hf, by rw [hr, hl], ?_, er⟩
  have hx := hS 0 (by rw [hl]; omega)
  have ev : (sysOf (memLq m F 8)).v 0 = basis (m 0) + (m 0).look := by
    show lbts_Outputs.la ((memLq m F 8).getD 0 zM) (lbts_Outputs.ow ((memLq m F 8).getD 0 zM)).1 = _
    rw [memLq_at m F 0 (by omega)]
    exact out_plain _ hk h1 h2 h3 h4
  have eh : (sysOf (memLq m F 8)).hg 0 = false := by
    show lbts_Outputs.h0 lbts_Outputs.ow ((memLq m F 8).getD 0 zM) = false
    rw [memLq_at m F 0 (by omega)]
    exact not_hangs _ hk
  have hrg := er 0 (by omega)
  rw [decide_eq_true (show 0 < (m 0).look by omega)] at hrg
  unfold Web.F at hx
  rw [hrg, eh, ev] at hx
  simp only [if_true, Bool.false_eq_true, if_false] at hx
  exact hx
theorem boundq_val (m : Nat → TM) (hq : Still m) (F : Int) (hk : (m 0).kind = 0 ∨ (m 0).kind = 1) (h1 : 1 ≤ (m 0).look) (h2 : (m 0).look ≤ 1048576) (h3 : 0 ≤ basis (m 0)) (h4 : basis (m 0) ≤ 1000000) :
    lbts_Lbts.f 9 (memLq m F 8) 1 = some (basis (m 0) + (m 0).look) := by
  have hl := memLq_len m F 8
  obtain ⟨r, hf, hr, hx, er⟩ := sysq m F hk h1 h2 h3 h4
  rw [lbts_tells _ (by rw [hl]; omega) hf (by rw [hr, hl]) 9 (by rw [hl]; omega)]
  congr 1
  have hrg := er 0 (by omega)
  rw [decide_eq_true (show 0 < (m 0).look by omega)] at hrg
  rw [hl]
  have e2 : ∀ k, 2 ≤ k → k < 8 → (sysOf (memLq m F 8)).reg k = false := fun k a b => by rw [er k b]; exact decide_eq_false (by rw [hq k a b]; omega)
  exact oth_pair _ _ _ (e2 2 (by omega) (by omega)) (e2 3 (by omega) (by omega)) (e2 4 (by omega) (by omega)) (e2 5 (by omega) (by omega)) (e2 6 (by omega) (by omega)) (e2 7 (by omega) (by omega)) 0 (by omega) hrg hx (by omega)
end Go.Proofs.YtaaaocckfnlgdaaGreatDoorT
