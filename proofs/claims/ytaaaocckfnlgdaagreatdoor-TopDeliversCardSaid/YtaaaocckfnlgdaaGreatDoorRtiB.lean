/- An empty queue's calls; the members as package lbts sees them; the bound. -/
import Derived.Test.YtaaaocckfnlgdaaGreatDoorRtiA
import Derived.Deep.MidRow
import Derived.Test.YtaaaocckfnlgdaaGreatDoorWLast
import Derived.Test.YtaaaocckfnlgdaaGreatDoorWMore
namespace Go.Proofs.YtaaaocckfnlgdaaGreatDoorT
open Go.RowKit Go.Proofs.YtaaaocckfnlgdaaGreatDoorW.PrintWords Go.Proofs.YtaaaocckfnlgdaaGreatDoorW.PrintLast Go.Proofs.YtaaaocckfnlgdaaGreatDoorW.PrintMore Go.Proofs.YtaaaocckfnlgdaaGreatDoor.PBase
set_option maxRecDepth 100000
set_option linter.unusedVariables false
set_option linter.unusedSimpArgs false

set_option maxHeartbeats 1000000 in
theorem first_none (q r : Nat) (w : World) (h : w.heap[q]? = some (.cells #[.int .i64 64, .slice none 0 0, .map (some r)] 92 (0, 0))) :
    Calls Tryz.prog 52 #[.pointer (some ⟨q, 0, none⟩)] w fun e w' => e = .returned (.tuple #[.agg #[.int .i64 0, .int .i64 0, .int .i64 0, .int .i64 0, .int .i64 0, .int .i64 0], .bool false]) ∧ Below w.heap.size w w' := by
  have k1 : w.cell? ⟨q, 1, none⟩ = some (.slice none 0 0) := (blk_cell h 1).trans rfl
  have k2 : (w.alloc (.cells #[.int .i64 0, .int .i64 0, .int .i64 0, .int .i64 0, .int .i64 0, .int .i64 0] 41 (0, 0))).cell? ⟨q, 1, none⟩ = some (.slice none 0 0) := pw_cell_below (below_alloc (Below.refl _ w) _) k1
  clear h
  go_enter Tryz.func52, Tryz.ntmps52
  go_wp2
  (try simp only [Exit.inBlock, Exit.then])
  refine bodyPost_ret (results_list (rs := [.cell 2 41, .tmp 3]) rfl (by simp) (.cell w.heap.size 41 #[.int .i64 0, .int .i64 0, .int .i64 0, .int .i64 0, .int .i64 0, .int .i64 0] (0, 0) _ rfl (blk_new w _) Tryz.underlying41 rfl (by kernel_rfl) (.tmp .nil))) rfl ?_
  exact ⟨rfl, below_alloc (Below.refl _ w) _⟩

/-- The eight members' cells, one behind the other. -/
def rrow (m : Nat → TM) (q : Nat → Nat) : List Value := mcells (m 0) (q 0) ++ (mcells (m 1) (q 1) ++ (mcells (m 2) (q 2) ++ (mcells (m 3) (q 3) ++ (mcells (m 4) (q 4) ++ (mcells (m 5) (q 5) ++ (mcells (m 6) (q 6) ++ mcells (m 7) (q 7)))))))
theorem rcells_eq (P : Value) (bt : Nat) (m : Nat → TM) (q : Nat → Nat) : rcells P bt m q = (P :: .pointer (some ⟨bt, 0, none⟩) :: (rrow m q ++ [.bool false])).toArray := rfl
theorem rrow_len (m : Nat → TM) (q : Nat → Nat) : (rrow m q).length = 80 := rfl
theorem rrow_at {w : World} {d : Ad} {ps ss : List Int} {m : Nat → TM} (H : Rt w d ps ss m) : w.rangeAt d.g 2 (rrow m d.q) := fun j v hv => by
  have hj : j < 80 := (List.getElem?_eq_some_iff.1 hv).1
  refine (blk_cell H.blk (2 + j)).trans ?_
  rw [rcells_eq, List.getElem?_toArray, show 2 + j = j + 1 + 1 by omega, List.getElem?_cons_succ, List.getElem?_cons_succ, List.getElem?_append_left hj]
  exact hv
/-- All members, as one value. -/
def rows (m : Nat → TM) (q : Nat → Nat) : Value := .agg (rrow m q).toArray
theorem load_rows {w : World} {d : Ad} {ps ss : List Int} {m : Nat → TM} (H : Rt w d ps ss m) : (Instr.loadAt 58 (.pointer (some ⟨d.g, 2, none⟩))).run Tryz.prog w = .ok (rows m d.q) w :=
  run_loadAt_mid w d.g 2 58 (rrow m d.q) _ (rrow_at H) Tryz.underlying58 rfl (by kernel_rfl)
theorem wp_load_rows {w : World} {d : Ad} {ps ss : List Int} {m : Nat → TM} (H : Rt w d ps ss m) {op : Oper} {a : Act} {K : Act → World → Prop} {Q : Exit → Act → World → Prop} (x : Operand) (ho : op.op = .load 58 x)
    (hx : a.eval x = .pointer (some ⟨d.g, 2, none⟩)) (h : K (a.put op.dst (rows m d.q)) w) : op.wp Tryz.prog a w K Q :=
  wp_load_mid 58 x ho d.g 2 hx (rrow m d.q) _ (rrow_at H) Tryz.underlying58 rfl (by kernel_rfl) h
theorem idxM (m : Nat → TM) (q : Nat → Nat) (k : Nat) (hk : k < 8) (W : World) :
    (Instr.index 58 (rows m q) (.int .i64 k)).run Tryz.prog W = .ok (.agg #[.bool (m k).is, .bool (m k).con, .int .i64 (m k).time, .int .i64 (m k).look, .int .i64 (m k).kind, .int .i64 (m k).ask, .int .i64 (m k).sent, .pointer (some ⟨q k, 0, none⟩), .slice none 0 0, .int .u32 (m k).subs]) W := by
  match k, hk with
  | 0, _ => rfl
  | 1, _ => rfl
  | 2, _ => rfl
  | 3, _ => rfl
  | 4, _ => rfl
  | 5, _ => rfl
  | 6, _ => rfl
  | 7, _ => rfl
def memOf (x : TM) : S108 := ⟨decide (0 < x.look), x.con, x.time, x.look, x.kind, x.ask, 1125899906842624⟩
/-- The first k members, as package lbts sees them: no message waits. -/
def memL (m : Nat → TM) : Nat → List S108
  | 0 => []
  | k + 1 => memL m k ++ [memOf (m k)]
theorem memL_len (m : Nat → TM) : ∀ k, (memL m k).length = k
  | 0 => rfl
  | k + 1 => by simp [memL, memL_len m k]
theorem memInfo : (Tryz.prog.info? 108).map (fun i => (i.zero, i.size, i.bytes)) = some (some (.agg #[.bool false, .bool false, .int .i64 0, .int .i64 0, .int .i64 0, .int .i64 0, .int .i64 0]), 7, 48) := by kernel_rfl
set_option maxHeartbeats 4000000 in
theorem members_calls {w : World} {d : Ad} {ps ss : List Int} {m : Nat → TM} (H : Rt w d ps ss m) :
    Calls Tryz.prog 28 #[.pointer (some ⟨d.g, 0, none⟩)] w fun e w' => ∃ v, e = .returned v ∧ Kd.R k108 108 w' w.heap.size (fun _ => True) v (memL m 8) ∧ Below w.heap.size w w' := by
  have HH := Aside0.mk H
  have hix := Aside0.mk (idxM m d.q)
  clear H
  go_enter Tryz.func28, Tryz.ntmps28
  go_wp2
  refine wp_load_rows HH.out (.tmp 11) rfl rfl ?_
  generalize rows m d.q = A at hix ⊢
  go_wp2
  go_loopw [3, 13] (fun v3 v13 wr => ∃ k : Nat, k ≤ 8 ∧ v13 = .int .i64 k ∧ Aside0 (Kd.R k108 108 wr w.heap.size (fun _ => True) v3 (memL m k)) ∧ Aside0 (Below w.heap.size w wr)) (fun _ k _ => 8 - (intOf k).toNat)
  case atStart => exact ⟨0, by omega, rfl, ⟨Kd.R_nil _ _ _ _ _⟩, ⟨Below.refl _ _⟩⟩
  case round =>
    obtain ⟨k, hk, rfl, HO, BW⟩ := hrel
    obtain ⟨Av, cv, rfl⟩ := Kd.R_slice HO.out
    have hk0 : (0 : Int) ≤ (k : Int) := by omega
    by_cases hlt : k < 8
    · have hlt1 : (k : Int) < 8 := by omega
      have hx := hix.out k hlt
      have HQ := Aside0.mk (blk_below (HH.out.que k hlt) BW.out)
      have CF := Aside0.mk (fun W (hW : Below wr.heap.size wr W) => first_none (d.q k) (d.r k) W (blk_below HQ.out hW))
      go_upto_region 6 with (fail)
      have N1 := Aside0.mk (show (wr.alloc (.cells #[.bool (m k).is, .bool (m k).con, .int .i64 (m k).time, .int .i64 (m k).look, .int .i64 (m k).kind, .int .i64 (m k).ask, .int .i64 (m k).sent, .pointer (some ⟨d.q k, 0, none⟩), .slice none 0 0, .int .u32 (m k).subs] 56 (0, 0))).heap[wr.heap.size]? = some (.cells #[.bool (m k).is, .bool (m k).con, .int .i64 (m k).time, .int .i64 (m k).look, .int .i64 (m k).kind, .int .i64 (m k).ask, .int .i64 (m k).sent, .pointer (some ⟨d.q k, 0, none⟩), .slice none 0 0, .int .u32 (m k).subs] 56 (0, 0)) from blk_new wr _)
      have E1 := Aside0.mk (show Below wr.heap.size wr (wr.alloc (.cells #[.bool (m k).is, .bool (m k).con, .int .i64 (m k).time, .int .i64 (m k).look, .int .i64 (m k).kind, .int .i64 (m k).ask, .int .i64 (m k).sent, .pointer (some ⟨d.q k, 0, none⟩), .slice none 0 0, .int .u32 (m k).subs] 56 (0, 0))) from below_alloc (Below.refl _ _) _)
      generalize (wr.alloc (.cells #[.bool (m k).is, .bool (m k).con, .int .i64 (m k).time, .int .i64 (m k).look, .int .i64 (m k).kind, .int .i64 (m k).ask, .int .i64 (m k).sent, .pointer (some ⟨d.q k, 0, none⟩), .slice none 0 0, .int .u32 (m k).subs] 56 (0, 0))) = W1 at N1 E1 ⊢
      have n7 := (blk_cell N1.out 7).trans rfl
      go_upto_region 9 with (go_at_call 52; (with_reducible refine (CF.out _ E1.out).mono ?_); rintro e w2 ⟨rfl, hb⟩; have E2 := Aside0.mk (below_step E1.out hb); have N2 := Aside0.mk (blk_below N1.out hb); clear hb n7)
      have N3 := Aside0.mk (show (w2.alloc (.cells #[.int .i64 0, .int .i64 0, .int .i64 0, .int .i64 0, .int .i64 0, .int .i64 0] 41 (0, 0))).heap[wr.heap.size]? = some (.cells #[.bool (m k).is, .bool (m k).con, .int .i64 (m k).time, .int .i64 (m k).look, .int .i64 (m k).kind, .int .i64 (m k).ask, .int .i64 (m k).sent, .pointer (some ⟨d.q k, 0, none⟩), .slice none 0 0, .int .u32 (m k).subs] 56 (0, 0)) from blk_alloc N2.out _)
      have E3 := Aside0.mk (show Below wr.heap.size wr (w2.alloc (.cells #[.int .i64 0, .int .i64 0, .int .i64 0, .int .i64 0, .int .i64 0, .int .i64 0] 41 (0, 0))) from below_alloc E2.out _)
      generalize (w2.alloc (.cells #[.int .i64 0, .int .i64 0, .int .i64 0, .int .i64 0, .int .i64 0, .int .i64 0] 41 (0, 0))) = W3 at N3 E3 ⊢
      have n1 := (blk_cell N3.out 1).trans rfl
      have n2 := (blk_cell N3.out 2).trans rfl
      have n3 := (blk_cell N3.out 3).trans rfl
      have n4 := (blk_cell N3.out 4).trans rfl
      have n5 := (blk_cell N3.out 5).trans rfl
      have HB3 := Aside0.mk (below_step BW.out E3.out)
      have HO3 := Aside0.mk (Kd.R_step HO.out (fun k _ hlt => E3.out.block k hlt))
      have HL := memL_len m k
      go_wp2_with ((with_reducible refine gate_builtin (b := .append) (xs := #[.tmp 26, .tmp 42]) rfl ?_); at_builtin; refine Kd.R_append k108 (w0 := w) w.heap.size rfl (.tmp 26) (.tmp 42) 73 108 _ 48 rfl Tryz.underlying73 memInfo rfl (show 0 < 7 by decide) (by omega) _ (memL m k) (memOf (m k)) [.bool (decide (0 < (m k).look)), .bool (m k).con, .int .i64 (m k).time, .int .i64 (m k).look, .int .i64 (m k).kind, .int .i64 (m k).ask, .int .i64 1125899906842624] (fun _ => True) (fun _ => False) rfl rfl (k108_mkM _ _ _ (memOf (m k))) (fun _ hk => hk.elim) (fun _ _ => trivial) HO3.out HB3.out HB3.out.size (by rw [HL]; omega) ?_; intro v4 w4 ho hb hg hat; clear hg hat; have HO4 := Aside0.mk ho; have HB4 := Aside0.mk hb; clear ho hb)
      go_roundw
      case rel => exact ⟨k + 1, by omega, by go_num, HO4, HB4⟩
      case measure => simp [intOf]; omega
    · obtain rfl : k = 8 := by omega
      go_wp2
      go_ret
      exact ⟨_, rfl, HO.out, BW.out⟩
end Go.Proofs.YtaaaocckfnlgdaaGreatDoorT
