/- An empty queue is listed; what is decided of nothing. -/
import Derived.Test.YtaaaocckfnlgdaaGreatDoorRtiB
import Derived.Lib.BufferMore
namespace Go.Proofs.YtaaaocckfnlgdaaGreatDoorT
open Go.RowKit Go.Proofs.YtaaaocckfnlgdaaGreatDoorW.PrintWords Go.Proofs.YtaaaocckfnlgdaaGreatDoorW.PrintLast Go.Proofs.YtaaaocckfnlgdaaGreatDoorW.PrintMore Go.Proofs.YtaaaocckfnlgdaaGreatDoorU Go.Proofs.YtaaaocckfnlgdaaGreatDoor.PBase
set_option maxRecDepth 100000
set_option linter.unusedVariables false
set_option linter.unusedSimpArgs false
set_option maxHeartbeats 1000000 in
theorem ins_none (v : Value) (w : World) : Calls Tryz.prog 76 #[.slice none 0 0, .int .i64 0, .int .i64 0, v] w fun e w' => e = .returned (.tuple #[]) ∧ w = w' := by
  go_enter Tryz.func76, Tryz.ntmps76
  go_wp2
  go_loopw [8, 9] (fun v8 v9 wr => v8 = .int .i64 1 ∧ w = wr) (fun _ _ _ => 0)
  case atStart => exact ⟨rfl, rfl⟩
  case round =>
    obtain ⟨rfl, rfl⟩ := hrel
    go_wp2
    go_end0
    exact ⟨rfl, rfl⟩
set_option maxHeartbeats 1000000 in
theorem len_zero (w : World) : Calls Tryz.prog 65 #[.int .u64 0] w fun e w' => e = .returned (.int .i64 0) ∧ w = w' := by
  go_enter Tryz.func65, Tryz.ntmps65
  go_wp2
  go_ret
  exact ⟨by kernel_rfl, rfl⟩
set_option maxHeartbeats 1000000 in
theorem pdq_none (l : Int) (v : Value) (w : World) : Calls Tryz.prog 64 #[.slice none 0 0, .int .i64 0, .int .i64 0, .int .i64 l, v] w fun e w' => e = .returned (.tuple #[]) ∧ w = w' := by
  have CI := Aside0.mk (ins_none v w)
  go_enter Tryz.func64, Tryz.ntmps64
  go_wp2
  refine wp_loop_once ?_
  go_wp2_with (go_at_call 76; (with_reducible refine CI.out.mono ?_); rintro e w1 ⟨rfl, rfl⟩)
  try simp only [Exit.inBlock, Exit.then]
  refine bodyPost_ret (results_none rfl _ _ _) rfl ?_
  exact ⟨rfl, rfl⟩
set_option maxHeartbeats 1000000 in
theorem sort_none (v : Value) (w : World) : Calls Tryz.prog 40 #[.slice none 0 0, v] w fun e w' => e = .returned (.tuple #[]) ∧ w = w' := by
  have CL := Aside0.mk (len_zero w)
  have CP := Aside0.mk (fun l => pdq_none l v w)
  go_enter Tryz.func40, Tryz.ntmps40
  go_wp2_with (first | (go_at_call 65; (with_reducible refine CL.out.mono ?_); rintro e w1 ⟨rfl, rfl⟩) | (go_at_call 64; (with_reducible refine (CP.out _).mono ?_); rintro e w2 ⟨rfl, rfl⟩))
  go_end0
  exact ⟨rfl, rfl⟩
set_option maxHeartbeats 1000000 in
theorem clone_none (w : World) : Calls Tryz.prog 39 #[.slice none 0 0] w fun e w' => e = .returned (.slice none 0 0) ∧ w = w' := by
  have heq := fun W => Lib.run_eql_slice_nil_nil (P := Tryz.prog) W (t := 27) (e := 41) 0 0 Tryz.underlying27
  go_enter Tryz.func39, Tryz.ntmps39
  go_wp2
  go_ret
  exact ⟨rfl, rfl⟩
set_option maxHeartbeats 1000000 in
theorem list_none (q r : Nat) (w : World) (h : w.heap[q]? = some (.cells #[.int .i64 64, .slice none 0 0, .map (some r)] 92 (0, 0))) :
    Calls Tryz.prog 22 #[.pointer (some ⟨q, 0, none⟩)] w fun e w' => e = .returned (.slice none 0 0) ∧ w = w' := by
  have k1 : w.cell? ⟨q, 1, none⟩ = some (.slice none 0 0) := (blk_cell h 1).trans rfl
  have CC := Aside0.mk (clone_none w)
  have CS := Aside0.mk (fun v => sort_none v w)
  clear h
  go_enter Tryz.func22, Tryz.ntmps22
  go_wp2_with (first | (go_at_call 39; (with_reducible refine CC.out.mono ?_); rintro e w1 ⟨rfl, rfl⟩) | (go_at_call 40; (with_reducible refine (CS.out _).mono ?_); rintro e w2 ⟨rfl, rfl⟩))
  go_ret
  exact ⟨rfl, rfl⟩
set_option maxHeartbeats 1000000 in
theorem search_none (v : Value) (w : World) : Calls Tryz.prog 68 #[.int .i64 0, v] w fun e w' => e = .returned (.int .i64 0) ∧ w = w' := by
  go_enter Tryz.func68, Tryz.ntmps68
  go_wp2
  go_loopw [5, 6, 7] (fun v5 v6 v7 wr => v5 = .int .i64 0 ∧ v6 = .int .i64 0 ∧ w = wr) (fun _ _ _ _ => 0)
  case atStart => exact ⟨rfl, rfl, rfl⟩
  case round =>
    obtain ⟨rfl, rfl, rfl⟩ := hrel
    go_wp2
    go_ret
    exact ⟨rfl, rfl⟩
set_option maxHeartbeats 1000000 in
theorem upTo_none (t : Int) (w : World) : Calls Tryz.prog 43 #[.slice none 0 0, .int .i64 t] w fun e w' => e = .returned (.int .i64 0) ∧ Below w.heap.size w w' := by
  have CS := Aside0.mk (fun v W => search_none v W)
  go_enter Tryz.func43, Tryz.ntmps43
  go_wp2_with (go_at_call 68; (with_reducible refine (CS.out _ _).mono ?_); rintro e w1 ⟨rfl, rfl⟩)
  go_ret
  exact ⟨rfl, below_alloc (below_alloc (Below.refl _ w) _) _⟩
set_option maxHeartbeats 1000000 in
/-- Asked to go to a time: granted if the bound is beyond it. -/
theorem decide_one (ask time bound : Int) (w : World) : Calls Tryz.prog 23 #[.int .i64 1, .int .i64 ask, .int .i64 time, .int .i64 bound, .slice none 0 0] w fun e w' => e = .returned (if ask < bound then .tuple #[.bool true, .int .i64 ask, .int .i64 0] else .tuple #[.bool false, .int .i64 0, .int .i64 0]) ∧ Below w.heap.size w w' := by
  have CU := Aside0.mk (upTo_none ask w)
  by_cases h : ask < bound
  · rw [if_pos h]
    go_enter Tryz.func23, Tryz.ntmps23
    go_wp2_with (go_at_call 43; (with_reducible refine CU.out.mono ?_); rintro e w1 ⟨rfl, hb⟩; have B1 := Aside0.mk hb; clear hb)
    go_ret3
    exact ⟨rfl, B1.out⟩
  · rw [if_neg h]
    go_enter Tryz.func23, Tryz.ntmps23
    go_wp2
    go_ret3
    exact ⟨rfl, Below.refl _ _⟩
end Go.Proofs.YtaaaocckfnlgdaaGreatDoorT
