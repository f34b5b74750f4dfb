import Derived.Test.YtaaaocckfnlgdaaGreatDoorRtiA
import Derived.Test.YtaaaocckfnlgdaaGreatDoorQA
import Derived.Deep.RegionHeld3
import Derived.StillTailTactics
import Derived.Laws.StructEq
import Derived.WideKeyRuns
/- Keys are compared: cmp.Compare, cmp.Or, vtime.Cmp, the closure of List. -/
namespace Go.Proofs.YtaaaocckfnlgdaaGreatDoorT
open Go.RowKit Go.Sort Go.Proofs.YtaaaocckfnlgdaaGreatDoorW.PrintWords Go.Proofs.YtaaaocckfnlgdaaGreatDoorW.PrintLast Go.Proofs.YtaaaocckfnlgdaaGreatDoorW.PrintMore Go.Proofs.YtaaaocckfnlgdaaGreatDoor.PBase Go.Proofs.YtaaaocckfnlgdaaGreatDoorH
set_option maxRecDepth 100000
set_option linter.unusedVariables false
set_option linter.unusedSimpArgs false
def ci (a b : Int) : Int := if a < b then -1 else if b < a then 1 else 0
def cf (x y : Mg) : Int := if ci x.1 y.1 ≠ 0 then ci x.1 y.1 else ci x.2 y.2
theorem cf_lt (x y : Mg) : decide (cf x y < 0) = klt x y := by
  unfold cf ci klt
  by_cases h1 : x.1 < y.1
  · simp [h1]
  · by_cases h2 : y.1 < x.1
    · simp [h1, h2]
      omega
    · have h3 : x.1 = y.1 := by omega
      by_cases h4 : x.2 < y.2
      · simp [h3, h4]
      · by_cases h5 : y.2 < x.2 <;> simp [h3, h4, h5]
set_option maxHeartbeats 1000000 in
theorem nan_calls (x : Int) (w : World) : Calls Tryz.prog 86 #[.int .i64 x] w fun e w' => e = .returned (.bool false) ∧ w' = w := by
  go_enter Tryz.func86, Tryz.ntmps86
  go_wp2
  go_ret
  exact ⟨by simp, rfl⟩
set_option maxHeartbeats 1000000 in
theorem compare_calls (x y : Int) (w : World) : Calls Tryz.prog 67 #[.int .i64 x, .int .i64 y] w fun e w' => e = .returned (.int .i64 (ci x y)) ∧ w' = w := by
  have hn := fun z => nan_calls z w
  go_enter Tryz.func67, Tryz.ntmps67
  go_wp2_with (go_at_call 86; refine (hn _).mono ?_; rintro e w' ⟨rfl, rfl⟩)
  all_goals (go_ret; refine ⟨?_, rfl⟩; unfold ci; (repeat' split) <;> first | rfl | (exfalso; omega))
set_option maxHeartbeats 4000000 in
theorem or_calls (a b : Int) (h : Nat) (w : World) (k0 : w.cell? ⟨h, 0, none⟩ = some (.int .i64 a)) (k1 : w.cell? ⟨h, 1, none⟩ = some (.int .i64 0)) (k2 : w.cell? ⟨h, 2, none⟩ = some (.int .i64 b)) :
    Calls Tryz.prog 66 #[.slice (some ⟨h, 0, none⟩) 3 3] w fun e w' => e = .returned (.int .i64 (if a ≠ 0 then a else b)) ∧ w' = w := by
  go_enter Tryz.func66, Tryz.ntmps66
  go_wp2
  go_loopw [8] (fun v8 wr => ∃ i : Nat, i ≤ 3 ∧ v8 = .int .i64 i ∧ w = wr ∧ (1 ≤ i → a = 0) ∧ (3 ≤ i → b = 0)) (fun i _ => 3 - (intOf i).toNat)
  case atStart => exact ⟨0, by omega, rfl, rfl, fun h => by omega, fun h => by omega⟩
  case round =>
    obtain ⟨i, hi, rfl, rfl, h1, h2⟩ := hrel
    match i, hi with
    | 0, _ =>
      by_cases ha : a = 0
      · subst ha
        go_wp2
        go_roundw
        case rel => exact ⟨1, by omega, by simp⟩
        case measure => simp [intOf]
      · go_wp2
        go_ret
        exact ⟨by simp [ha], rfl⟩
    | 1, _ =>
      obtain rfl := h1 (by omega)
      go_wp2
      go_roundw
      case rel => exact ⟨2, by omega, by simp⟩
      case measure => simp [intOf]
    | 2, _ =>
      obtain rfl := h1 (by omega)
      by_cases hb : b = 0
      · subst hb
        go_wp2
        go_roundw
        case rel => exact ⟨3, by omega, by simp⟩
        case measure => simp [intOf]
      · go_wp2
        go_ret
        exact ⟨by simp, rfl⟩
    | 3, _ =>
      obtain rfl := h1 (by omega)
      obtain rfl := h2 (by omega)
      go_wp2
      go_ret
      exact ⟨by simp, rfl⟩
set_option maxHeartbeats 4000000 in
theorem cmp_calls (x y : Mg) (w : World) : Calls Tryz.prog 42 #[.agg #[.int .i64 x.1, .int .i64 0, .int .i64 x.2], .agg #[.int .i64 y.1, .int .i64 0, .int .i64 y.2]] w fun e w' => e = .returned (.int .i64 (cf x y)) ∧ ∃ q os', w' = grow (w.drewN q) os' := by
  obtain ⟨x1, x2⟩ := x
  obtain ⟨y1, y2⟩ := y
  rw [show cf (x1, x2) (y1, y2) = if ci x1 y1 ≠ 0 then ci x1 y1 else ci x2 y2 from rfl]
  have hc := fun a b W => compare_calls a b W
  have ho := Aside0.mk (fun a b h W k0 k1 k2 => or_calls a b h W k0 k1 k2)
  go_enter Tryz.func42, Tryz.ntmps42
  go_upto_region 1 with (fail)
  have n0 : ((w.alloc (.cells #[.int .i64 x1, .int .i64 0, .int .i64 x2] 39)).alloc (.cells #[.int .i64 y1, .int .i64 0, .int .i64 y2] 39)).heap[w.heap.size]? = some (.cells #[.int .i64 x1, .int .i64 0, .int .i64 x2] 39 (0, 0)) := blk_alloc (blk_new w _) _
  have n1 : ((w.alloc (.cells #[.int .i64 x1, .int .i64 0, .int .i64 x2] 39)).alloc (.cells #[.int .i64 y1, .int .i64 0, .int .i64 y2] 39)).heap[w.heap.size + 1]? = some (.cells #[.int .i64 y1, .int .i64 0, .int .i64 y2] 39 (0, 0)) := by
    have := blk_new (w.alloc (.cells #[.int .i64 x1, .int .i64 0, .int .i64 x2] 39)) (.cells #[.int .i64 y1, .int .i64 0, .int .i64 y2] 39)
    rwa [World.size_alloc] at this
  have hW : ∃ q os', ((w.alloc (.cells #[.int .i64 x1, .int .i64 0, .int .i64 x2] 39)).alloc (.cells #[.int .i64 y1, .int .i64 0, .int .i64 y2] 39)) = grow (w.drewN q) os' := ⟨0, _, by rw [alloc_eq_grow, alloc_eq_grow, grow_grow]; rfl⟩
  generalize ((w.alloc (.cells #[.int .i64 x1, .int .i64 0, .int .i64 x2] 39)).alloc (.cells #[.int .i64 y1, .int .i64 0, .int .i64 y2] 39)) = W at n0 n1 hW ⊢
  generalize w.heap.size = b0 at n0 n1 ⊢
  have HW := Aside0.mk hW
  clear hW
  have a0 := (blk_cell n0 0).trans rfl
  have a1 := (blk_cell n0 1).trans rfl
  have a2 := (blk_cell n0 2).trans rfl
  have c0 := (blk_cell n1 0).trans rfl
  have c1 := (blk_cell n1 1).trans rfl
  have c2 := (blk_cell n1 2).trans rfl
  clear n0 n1
  refine wp_region_still_tail 15 (by kernel_rfl) (by kernel_rfl) ?_
  simp only [List.take_succ_cons, List.take_zero, List.drop_succ_cons, List.drop_zero]
  iterate 4 still_step
  still_call (hc _ _ _)
  iterate 4 still_step
  still_call (hc _ _ _)
  iterate 4 still_step
  still_call (hc _ _ _)
  refine wpStill_nil ?_
  rw [show ci 0 0 = 0 from rfl]
  have HW2 := Aside0.mk (show ∃ q os', W.drew = grow (w.drewN q) os' from by
    obtain ⟨q, os', e⟩ := HW.out
    exact ⟨q + 1, os', by rw [e]; rfl⟩)
  clear a0 a1 a2 c0 c1 c2 HW
  change wpList _ _ _ _ _ W.drew
  generalize W.drew = W2 at HW2 ⊢
  have n5 := blk_new W2 (.cells #[.int .i64 (ci x1 y1), .int .i64 0, .int .i64 (ci x2 y2)] 3 (0, 0))
  have CO := Aside0.mk (ho.out (ci x1 y1) (ci x2 y2) W2.heap.size _ ((blk_cell n5 0).trans rfl) ((blk_cell n5 1).trans rfl) ((blk_cell n5 2).trans rfl))
  clear n5
  go_wp2_with (go_at_call 66; (with_reducible refine CO.out.mono ?_); rintro e w' ⟨rfl, rfl⟩)
  all_goals (go_ret; obtain ⟨q, os', e⟩ := HW2.out; exact ⟨rfl, q, _, by rw [alloc_eq_grow, e, grow_grow]⟩)
set_option maxHeartbeats 1000000 in
theorem less_closure (x y : List Value) (x1 x2 y1 y2 : Int) (hx : x = [.int .i64 x1, .int .i64 0, .int .i64 x2, .int .i64 1, .int .i64 0, .int .i64 x2]) (hy : y = [.int .i64 y1, .int .i64 0, .int .i64 y2, .int .i64 1, .int .i64 0, .int .i64 y2]) (w : World) : Calls Tryz.prog 41 #[.agg x.toArray, .agg y.toArray] w fun e w' => e = .returned (.int .i64 (cf (x1, x2) (y1, y2))) ∧ ∃ q os', w' = grow (w.drewN q) os' := by
  subst hx; subst hy
  have hc := Aside0.mk (fun W => cmp_calls (x1, x2) (y1, y2) W)
  generalize cf (x1, x2) (y1, y2) = r at hc ⊢
  go_enter Tryz.func41, Tryz.ntmps41
  go_wp2_with (go_at_call 42; (with_reducible refine (hc.out _).mono ?_); rintro e w' ⟨rfl, q, os', rfl⟩)
  go_ret
  exact ⟨rfl, q, _, by rw [alloc_eq_grow, alloc_eq_grow, grow_grow]; show grow (grow (w.drewN q) _) _ = _; rw [grow_grow]⟩
end Go.Proofs.YtaaaocckfnlgdaaGreatDoorT
/- A queue's row of messages and its map of keys. -/
namespace Go.Proofs.YtaaaocckfnlgdaaGreatDoorT
open Go.RowKit Go.Sort Go.Proofs.YtaaaocckfnlgdaaGreatDoorW.PrintWords Go.Proofs.YtaaaocckfnlgdaaGreatDoorW.PrintLast Go.Proofs.YtaaaocckfnlgdaaGreatDoorW.PrintMore Go.Proofs.YtaaaocckfnlgdaaGreatDoor.PBase Go.Proofs.YtaaaocckfnlgdaaGreatDoorH
set_option maxRecDepth 100000
set_option linter.unusedVariables false
set_option linter.unusedSimpArgs false
def kv (x : Mg) : Value := .agg #[.int .i64 x.1, .int .i64 0, .int .i64 x.2]
def mv (x : Mg) : List Value := [.int .i64 x.1, .int .i64 0, .int .i64 x.2, .int .i64 1, .int .i64 0, .int .i64 x.2]
def kM : Kd Mg := Kd.iso (Kd.pair (Kd.int .i64) (Kd.pair (Kd.int .i64) (Kd.pair (Kd.int .i64) (Kd.pair (Kd.int .i64) (Kd.pair (Kd.int .i64) (Kd.int .i64)))))) (fun x : Mg => (x.1, 0, x.2, 1, 0, x.2))
theorem kM_open {w : World} {x : Mg} {cs : List Value} (h : kM.K w x cs) : cs = mv x := by
  obtain ⟨_, _, rfl, rfl, ⟨_, _, rfl, rfl, ⟨_, _, rfl, rfl, ⟨_, _, rfl, rfl, ⟨_, _, rfl, rfl, rfl⟩⟩⟩⟩⟩ := h
  exact rfl
theorem kM_openM {w : World} {base : Nat} {ok : Nat → Prop} {x : Mg} {cs : List Value} (h : kM.M w base ok x cs) : cs = mv x := by
  obtain ⟨_, _, rfl, rfl, ⟨_, _, rfl, rfl, ⟨_, _, rfl, rfl, ⟨_, _, rfl, rfl, ⟨_, _, rfl, rfl, rfl⟩⟩⟩⟩⟩ := h
  exact rfl
theorem kM_mkM (w : World) (base : Nat) (ok : Nat → Prop) (x : Mg) : kM.M w base ok x (mv x) :=
  ⟨[.int .i64 x.1], [.int .i64 0, .int .i64 x.2, .int .i64 1, .int .i64 0, .int .i64 x.2], rfl, rfl, ⟨[.int .i64 0], [.int .i64 x.2, .int .i64 1, .int .i64 0, .int .i64 x.2], rfl, rfl, ⟨[.int .i64 x.2], [.int .i64 1, .int .i64 0, .int .i64 x.2], rfl, rfl, ⟨[.int .i64 1], [.int .i64 0, .int .i64 x.2], rfl, rfl, ⟨[.int .i64 0], [.int .i64 x.2], rfl, rfl, rfl⟩⟩⟩⟩⟩
theorem kM_sz : kM.sz = 6 := rfl
theorem msgInfo : (Tryz.prog.info? 41).map (fun i => (i.zero, i.size, i.bytes)) = some (some (.agg #[.int .i64 0, .int .i64 0, .int .i64 0, .int .i64 0, .int .i64 0, .int .i64 0]), 6, 48) := by kernel_rfl
/-! ### keys -/
theorem keyStruct : Tryz.prog.underlying 39 = some (.struct (Tryz.prog.fieldsOf 39)) := by kernel_rfl
theorem run_eqKey (x y : Mg) (w : World) : (Op.equal 39 (kv x) (kv y)).run Tryz.prog w = .ok (decide (x = y)) w := by
  have u3 := Tryz.underlying3
  have a3 := Tryz.isAgg3
  have z3 := Tryz.sizeOf3
  have hp : Tryz.prog.stoodInHeld 39 = false := by kernel_rfl
  unfold Op.equal kv
  rw [show Op.maxDepth = 9999 + 1 from rfl, run_equalIn_struct w 9999 39 _ _ keyStruct hp]
  simp only [Program.fieldsOf, Tryz.underlying39]
  go_simp
  obtain ⟨x1, x2⟩ := x
  obtain ⟨y1, y2⟩ := y
  by_cases h1 : x1 = y1 <;> by_cases h2 : x2 = y2 <;> simp [h1, h2]
/-- A map whose keys are messages' keys, each as p says. -/
def MapOk (w : World) (r : Nat) (p : Mg → Prop) : Prop := ∃ es clock, w.heap[r]? = some (.map es clock) ∧ ∀ e ∈ es.toList, ∃ x, e.key = kv x ∧ p x
/-- .. and there is an entry that was born at s. -/
def MapAt (w : World) (r : Nat) (p : Mg → Prop) (s : Int) : Prop := ∃ es clock, w.heap[r]? = some (.map es clock) ∧ (∀ e ∈ es.toList, ∃ x, e.key = kv x ∧ p x) ∧ ∃ e ∈ es.toList, (e.born : Int) = s
theorem MapAt.ok {w : World} {r : Nat} {p : Mg → Prop} {s : Int} (h : MapAt w r p s) : MapOk w r p := by
  obtain ⟨es, c, h1, h2, _⟩ := h
  exact ⟨es, c, h1, h2⟩
theorem MapOk.mono {w : World} {r : Nat} {p q : Mg → Prop} (h : MapOk w r p) (hq : ∀ x, p x → q x) : MapOk w r q := by
  obtain ⟨es, c, h1, h2⟩ := h
  exact ⟨es, c, h1, fun e he => by obtain ⟨x, a, b⟩ := h2 e he; exact ⟨x, a, hq x b⟩⟩
theorem MapOk.but {S : Nat → Prop} {w w' : World} {r : Nat} {p : Mg → Prop} (h : MapOk w r p) (hb : But S w w') (hr : ¬ S r) : MapOk w' r p := by
  obtain ⟨es, c, h1, h2⟩ := h
  exact ⟨es, c, hb.blk h1 hr, h2⟩
theorem MapOk.below {w w' : World} {r : Nat} {p : Mg → Prop} (h : MapOk w r p) (hb : Below w.heap.size w w') : MapOk w' r p := h.but (But.of_below (S := fun _ => False) hb) id
theorem kv_inj {x y : Mg} (h : kv x = kv y) : x = y := by
  obtain ⟨x1, x2⟩ := x
  obtain ⟨y1, y2⟩ := y
  simp only [kv, Value.agg.injEq, Array.mk.injEq, List.cons.injEq, Value.int.injEq, true_and, and_true] at h
  rw [h.1, h.2]
theorem run_find (x : Mg) (w : World) : ∀ (es : List MapEntry) (i : Nat), (∀ e ∈ es, ∃ y, e.key = kv y) →
    ((Instr.findAsking 39 (kv x) es i).run Tryz.prog w = .ok none w ∧ ∀ e ∈ es, e.key ≠ kv x) ∨
    ∃ j e, (Instr.findAsking 39 (kv x) es i).run Tryz.prog w = .ok (some (i + j, e.val)) w ∧ es[j]? = some e ∧ e.key = kv x
  | [], i, _ => .inl ⟨by simp [Instr.findAsking], by simp⟩
  | e :: es, i, h => by
    obtain ⟨y, hy⟩ := h e (.head _)
    unfold Instr.findAsking
    simp only [Sem.run_bind, hy, run_eqKey, Result.andThen_ok]
    by_cases hxy : x = y
    · subst hxy
      exact .inr ⟨0, e, by simp, rfl, hy⟩
    · simp only [hxy, decide_false, Bool.false_eq_true, if_false]
      rcases run_find x w es (i + 1) (fun z hz => h z (.tail _ hz)) with ⟨h1, h2⟩ | ⟨j, e', h1, h2, h3⟩
      · exact .inl ⟨h1, fun z hz => by
          cases hz with
          | head => rw [hy]; exact fun q => hxy (kv_inj q).symm
          | tail _ hz => exact h2 z hz⟩
      · exact .inr ⟨j + 1, e', by rw [h1, show i + 1 + j = i + (j + 1) by omega], by simpa using h2, h3⟩
theorem keyWide : (match Tryz.prog.underlying 39 with | some (.array _ _) | some (.struct _) => true | _ => false) = true := by rw [keyStruct]
theorem run_findK (x : Mg) (w : World) (es : Array MapEntry) (h : ∀ e ∈ es.toList, ∃ y, e.key = kv y) :
    ((Instr.findKey 39 (kv x) es.toList).run Tryz.prog w = .ok none w ∧ ∀ e ∈ es.toList, e.key ≠ kv x) ∨
    ∃ j e, (Instr.findKey 39 (kv x) es.toList).run Tryz.prog w = .ok (some (j, e.val)) w ∧ es[j]? = some e ∧ e.key = kv x := by
  rw [run_findKey_eq w keyWide]
  rcases run_find x w es.toList 0 h with h1 | ⟨j, e, h1, h2, h3⟩
  · exact .inl h1
  · exact .inr ⟨j, e, by rw [h1, Nat.zero_add], by simpa using h2, h3⟩
theorem run_chk (x : Mg) (em : Bool) (w : World) : (Instr.checkKey em 10000 39 (kv x)).run Tryz.prog w = .ok () w := by
  have u3 := Tryz.underlying3
  have a3 := Tryz.isAgg3
  have z3 := Tryz.sizeOf3
  have ck : ∀ (n : Nat) (z : Int) (W : World), (Instr.checkKey em (n + 1) 3 (.int .i64 z)).run Tryz.prog W = .ok () W := fun n z W => by
    simp [Instr.checkKey, run_underlying u3, Result.andThen]
  unfold Instr.checkKey kv
  simp only [Sem.run_bind, run_underlying Tryz.underlying39, Result.andThen_ok, ← Array.forIn_toList]
  have pk : Tryz.prog.plainKey 3 = true := by kernel_rfl
  have ck9 : ∀ (z : Int) (W : World), (Instr.checkKey em 9999 3 (.int .i64 z)).run Tryz.prog W = .ok () W := fun z W => ck 9998 z W
  have e0 : ∀ W, (part 3 #[.int .i64 x.1, .int .i64 0, .int .i64 x.2] 0).run Tryz.prog W = .ok (.int .i64 x.1) W := fun W => run_part_plain W pk rfl
  have e1 : ∀ W, (part 3 #[.int .i64 x.1, .int .i64 0, .int .i64 x.2] 1).run Tryz.prog W = .ok (.int .i64 0) W := fun W => run_part_plain W pk rfl
  have e2 : ∀ W, (part 3 #[.int .i64 x.1, .int .i64 0, .int .i64 x.2] 2).run Tryz.prog W = .ok (.int .i64 x.2) W := fun W => run_part_plain W pk rfl
  simp [List.forIn_cons, e0, e1, e2, ck9, Result.andThen]
/-! ### the map's operations -/
theorem mapInt : Tryz.prog.underlying 90 = some (.map 39 3) := Tryz.underlying90
/-- A key that is not there. -/
theorem run_lookup_no {w : World} {r : Nat} {p : Mg → Prop} (H : MapOk w r p) (x : Mg) (hx : ∀ y, p y → y ≠ x) : (Instr.lookup 90 (.map (some r)) (kv x) true).run Tryz.prog w = .ok (.tuple #[.int .i64 0, .bool false]) w := by
  obtain ⟨es, c, hb, hk⟩ := H
  have hz := Tryz.zeroValue3
  rcases run_findK x w es (fun e he => by obtain ⟨y, h, _⟩ := hk e he; exact ⟨y, h⟩) with ⟨h1, h2⟩ | ⟨j, e, h1, h2, h3⟩
  · simp [Instr.lookup, run_underlying mapInt, MapKept.run_getObj_map hb, run_chk, h1, hz, Result.andThen]
  · have he : e ∈ es.toList := by
      rw [← Array.getElem?_toList] at h2
      exact List.mem_of_getElem? h2
    obtain ⟨y, hy, hp⟩ := hk e he
    exact absurd (kv_inj (hy.symm.trans h3)) (hx y hp)
/-- What a write to a map's block does to the world. -/
theorem but_map {w : World} {r : Nat} {o : Obj} : But (fun k => k = r) w { w with heap := w.heap.setIfInBounds r o } :=
  ⟨rfl, rfl, rfl, by simp, fun i _ hn => by
    show (w.heap.setIfInBounds r o)[i]? = _
    rw [Array.getElem?_setIfInBounds, if_neg (fun e => hn e.symm)]⟩
theorem stays (x : Mg) (w : World) : (Instr.keyThatStays (kv x) (kv x)).run Tryz.prog w = .ok (kv x) w := by
  have : Instr.sameBits 10000 (kv x) (kv x) = true := by
    show Instr.sameBits (9998 + 1 + 1) (kv x) (kv x) = true
    simp [kv, Instr.sameBits]
  simp [Instr.keyThatStays, this]
theorem mem_modify {es : Array MapEntry} {j : Nat} {f : MapEntry → MapEntry} {e : MapEntry} (h : e ∈ (es.modify j f).toList) : e ∈ es.toList ∨ ∃ e0, es[j]? = some e0 ∧ e = f e0 := by
  obtain ⟨i, hi, he⟩ := List.getElem_of_mem h
  have hi' : i < es.size := by simpa using hi
  rw [Array.getElem_toList, Array.getElem_modify] at he
  split at he
  · rename_i hij
    subst hij
    exact .inr ⟨es[j], by simp [hi'], he.symm⟩
  · exact .inl (he ▸ Array.getElem_mem_toList hi')
/-- m[k] = v -/
theorem run_update {w : World} {r : Nat} {p : Mg → Prop} (H : MapOk w r p) (x : Mg) (hx : p x) (v : Value) : ∃ w', (Instr.mapUpdate 90 (.map (some r)) (kv x) v).run Tryz.prog w = .ok () w' ∧ MapOk w' r p ∧ But (fun k => k = r) w w' := by
  obtain ⟨es, c, hb, hk⟩ := H
  rcases run_findK x w es (fun e he => by obtain ⟨y, h, _⟩ := hk e he; exact ⟨y, h⟩) with ⟨h1, h2⟩ | ⟨j, e, h1, h2, h3⟩
  · refine ⟨_, by simp [Instr.mapUpdate, run_underlying mapInt, MapKept.run_getObj_map hb, run_chk, h1, MapKept.run_setObj_map _ hb, Result.andThen]; rfl, ⟨_, _, (MapKept.heap_set hb).1, fun e he => ?_⟩, but_map⟩
    simp only [Array.toList_push, List.mem_append, List.mem_singleton] at he
    rcases he with he | rfl
    · exact hk e he
    · exact ⟨x, rfl, hx⟩
  · refine ⟨_, by simp [Instr.mapUpdate, run_underlying mapInt, MapKept.run_getObj_map hb, run_chk, h1, h2, h3, stays, MapKept.run_setObj_map _ hb, Result.andThen]; rfl, ⟨_, _, (MapKept.heap_set hb).1, fun e' he => ?_⟩, but_map⟩
    rcases mem_modify he with he | ⟨e0, _, rfl⟩
    · exact hk e' he
    · exact ⟨x, rfl, hx⟩
/-- The entry of a key, which is laid if there is none: what it is called. -/
theorem run_entry {w : World} {r : Nat} {p : Mg → Prop} (H : MapOk w r p) (x : Mg) (hx : p x) : ∃ w' v s, (Instr.mapEntry 90 (.map (some r)) (kv x)).run Tryz.prog w = .ok (.tuple #[v, .int .i64 s]) w' ∧ MapAt w' r p s ∧ But (fun k => k = r) w w' := by
  obtain ⟨es, c, hb, hk⟩ := H
  have hz := Tryz.zeroValue3
  rcases run_findK x w es (fun e he => by obtain ⟨y, h, _⟩ := hk e he; exact ⟨y, h⟩) with ⟨h1, h2⟩ | ⟨j, e, h1, h2, h3⟩
  · refine ⟨_, .int .i64 0, (c : Int), by simp [Instr.mapEntry, run_underlying mapInt, MapKept.run_getObj_map hb, run_chk, h1, hz, MapKept.run_setObj_map _ hb, Result.andThen, goInt]; rfl, ⟨_, _, (MapKept.heap_set hb).1, fun e he => ?_, ⟨{ key := kv x, val := .int .i64 0, born := c }, by simp, rfl⟩⟩, but_map⟩
    simp only [Array.toList_push, List.mem_append, List.mem_singleton] at he
    rcases he with he | rfl
    · exact hk e he
    · exact ⟨x, rfl, hx⟩
  · refine ⟨_, e.val, (e.born : Int), by simp [Instr.mapEntry, run_underlying mapInt, MapKept.run_getObj_map hb, run_chk, h1, h2, h3, stays, MapKept.run_setObj_map _ hb, Result.andThen, goInt]; rfl, ⟨_, _, (MapKept.heap_set hb).1, fun e' he => ?_, ⟨{ e with key := kv x }, ?_, rfl⟩⟩, but_map⟩
    · rcases mem_modify he with he | ⟨e0, _, rfl⟩
      · exact hk e' he
      · exact ⟨x, rfl, hx⟩
    · refine List.mem_of_getElem? (i := j) ?_
      rw [Array.getElem?_toList, Array.getElem?_modify, if_pos rfl, h2]
      rfl
/-- .. and a store into it. -/
theorem run_estore {w : World} {r : Nat} {p : Mg → Prop} {s : Int} (H : MapAt w r p s) (v : Value) : ∃ w', (Instr.entryStore 90 (.map (some r)) (.int .i64 s) v).run Tryz.prog w = .ok () w' ∧ MapOk w' r p ∧ But (fun k => k = r) w w' := by
  obtain ⟨es, c, hb, hk, e, he, hs⟩ := H
  cases hf : es.findIdx? (fun e => (e.born : Int) == s) with
  | none =>
    rw [Array.findIdx?_eq_none_iff] at hf
    have := hf e (Array.mem_toList_iff.1 he)
    simp [hs] at this
  | some i =>
    refine ⟨_, by simp [Instr.entryStore, MapKept.run_getObj_map hb, asInt, asIntOf, hf, MapKept.run_setObj_map _ hb, Result.andThen]; rfl, ⟨_, _, (MapKept.heap_set hb).1, fun e' he' => ?_⟩, but_map⟩
    rcases mem_modify he' with he' | ⟨e0, h0, rfl⟩
    · exact hk e' he'
    · have : e0 ∈ es.toList := by
        rw [← Array.getElem?_toList] at h0
        exact List.mem_of_getElem? h0
      exact hk e0 this
/-- delete(m, k) -/
theorem run_del {w : World} {r : Nat} {p : Mg → Prop} (H : MapOk w r p) (x : Mg) (ty : TypeId) : ∃ w', (Builtin.delete_ #[90, 39] ty #[.map (some r), kv x]).run Tryz.prog w = .ok (.tuple #[]) w' ∧ MapOk w' r p ∧ But (fun k => k = r) w w' := by
  obtain ⟨es, c, hb, hk⟩ := H
  rcases run_findK x w es (fun e he => by obtain ⟨y, h, _⟩ := hk e he; exact ⟨y, h⟩) with ⟨h1, h2⟩ | ⟨j, e, h1, h2, h3⟩
  · exact ⟨_, by simp [Builtin.delete_, run_underlying mapInt, MapKept.run_getObj_map hb, run_chk, h1, MapKept.run_setObj_map _ hb, Result.andThen]; rfl, ⟨_, _, (MapKept.heap_set hb).1, hk⟩, but_map⟩
  · refine ⟨_, by simp [Builtin.delete_, run_underlying mapInt, MapKept.run_getObj_map hb, run_chk, h1, MapKept.run_setObj_map _ hb, Result.andThen]; rfl, ⟨_, _, (MapKept.heap_set hb).1, fun e' he => hk e' ?_⟩, but_map⟩
    unfold Array.eraseIdxIfInBounds at he
    split at he
    · simp only [Array.toList_eraseIdx] at he
      exact (List.eraseIdx_sublist _ _).subset he
    · exact he
/-! ### at the operation -/
section
variable {ops : Array Oper} {rest : List Oper} {o : Oper} {a : Act} {Q : Exit → Act → World → Prop} {w : World} {r : Nat} {p : Mg → Prop}
theorem wpk_lookup (hg : o.guard = none) (m k : Operand) (hop : o.op = .lookup 90 m k true) (hm : a.eval m = .map (some r)) (x : Mg) (hk : a.eval k = kv x) (H : MapOk w r p) (hx : ∀ y, p y → y ≠ x)
    (h : wpList Tryz.prog ops Q rest (a.put o.dst (.tuple #[.int .i64 0, .bool false])) w) : wpList Tryz.prog ops Q (o :: rest) a w := by
  refine wpList_plain hg fun K' hK' => ?_
  unfold Oper.wp
  simp [execOp, hop, hm, hk, run_lookup_no H x hx, Result.andThen]
  exact hK' _ _ h
theorem wpk_update (hg : o.guard = none) (m k v : Operand) (hop : o.op = .mapUpdate 90 m k v) (hm : a.eval m = .map (some r)) (x : Mg) (hk : a.eval k = kv x) (H : MapOk w r p) (hx : p x)
    (h : ∀ w', MapOk w' r p → But (fun k => k = r) w w' → wpList Tryz.prog ops Q rest (a.put o.dst undef) w') : wpList Tryz.prog ops Q (o :: rest) a w := by
  refine wpList_plain hg fun K' hK' => ?_
  obtain ⟨w', hrun, r1, r2⟩ := run_update H x hx (a.eval v)
  unfold Oper.wp
  simp [execOp, hop, hm, hk, hrun, Result.andThen]
  exact hK' _ _ (h w' r1 r2)
theorem wpk_entry (hg : o.guard = none) (m k : Operand) (hop : o.op = .mapEntry 90 m k) (hm : a.eval m = .map (some r)) (x : Mg) (hk : a.eval k = kv x) (H : MapOk w r p) (hx : p x)
    (h : ∀ w' v s, MapAt w' r p s → But (fun k => k = r) w w' → wpList Tryz.prog ops Q rest (a.put o.dst (.tuple #[v, .int .i64 s])) w') : wpList Tryz.prog ops Q (o :: rest) a w := by
  refine wpList_plain hg fun K' hK' => ?_
  obtain ⟨w', v, s, hrun, r1, r2⟩ := run_entry H x hx
  unfold Oper.wp
  simp [execOp, hop, hm, hk, hrun, Result.andThen]
  exact hK' _ _ (h w' v s r1 r2)
theorem wpk_estore (hg : o.guard = none) (m k v : Operand) (hop : o.op = .entryStore 90 m k v) (hm : a.eval m = .map (some r)) (s : Int) (hk : a.eval k = .int .i64 s) (H : MapAt w r p s)
    (h : ∀ w', MapOk w' r p → But (fun k => k = r) w w' → wpList Tryz.prog ops Q rest (a.put o.dst undef) w') : wpList Tryz.prog ops Q (o :: rest) a w := by
  refine wpList_plain hg fun K' hK' => ?_
  obtain ⟨w', hrun, r1, r2⟩ := run_estore H (a.eval v)
  unfold Oper.wp
  simp [execOp, hop, hm, hk, hrun, Result.andThen]
  exact hK' _ _ (h w' r1 r2)
theorem wpk_del (hg : o.guard = none) (m k : Operand) (hop : o.op = .call { callee := .builtin .delete, args := #[m, k], argTypes := #[90, 39] }) (hm : a.eval m = .map (some r)) (x : Mg) (hk : a.eval k = kv x) (H : MapOk w r p)
    (h : ∀ w', MapOk w' r p → But (fun k => k = r) w w' → wpList Tryz.prog ops Q rest (a.put o.dst (.tuple #[])) w') : wpList Tryz.prog ops Q (o :: rest) a w := by
  refine wpList_plain hg fun K' hK' => ?_
  obtain ⟨w', hrun, r1, r2⟩ := run_del H x o.type
  unfold Oper.wp
  simp [execOp, hop, resolve, invoke, builtin, hm, hk, hrun, Result.andThen]
  exact hK' _ _ (h w' r1 r2)
end
/-! ### a queue -/
structure Qu (w : World) (q r : Nat) (b : Nat) (v : Value) (l : List Mg) (p : Mg → Prop) : Prop where
  blk : w.heap[q]? = some (.cells #[.int .i64 64, v, .map (some r)] 92 (0, 0))
  row : kM.R 41 w b (fun _ => True) v l
  map : MapOk w r p
  all : ∀ x ∈ l, p x
def Zq (q r : Nat) (v : Value) (k : Nat) : Prop := k = q ∨ k = r ∨ some k = v.ownBlock
section
variable {w : World} {q r b : Nat} {v : Value} {l : List Mg} {p : Mg → Prop}
theorem Qu.below {w' : World} (H : Qu w q r b v l p) (h : Below w.heap.size w w') : Qu w' q r b v l p :=
  { H with blk := blk_below H.blk h, row := Kd.R_below H.row h, map := H.map.below h }
theorem Qu.drew (H : Qu w q r b v l p) : Qu w.drew q r b v l p := H.below (below_drew (Below.refl _ _))
theorem Qu.qv (H : Qu w q r b v l p) : some q ≠ v.ownBlock := Kd.R_ne H.row H.blk (by decide)
theorem Qu.rv (H : Qu w q r b v l p) : some r ≠ v.ownBlock := fun e => by
  obtain ⟨cells, hc⟩ := Kd.R_typed H.row r e.symm
  obtain ⟨es, c, h, _⟩ := H.map
  rw [h] at hc
  cases hc
theorem Qu.qr (H : Qu w q r b v l p) : q ≠ r := fun e => by
  obtain ⟨es, c, h, _⟩ := H.map
  have := H.blk
  rw [e, h] at this
  cases this
theorem Qu.but {S : Nat → Prop} {w' : World} (H : Qu w q r b v l p) (h : But S w w') (h1 : ¬ S q) (h2 : ¬ S r) (h3 : ∀ k, v.ownBlock = some k → ¬ S k) : Qu w' q r b v l p :=
  { H with blk := h.blk H.blk h1, row := Kd.R_step (Kd.R_tight rfl H.row |> fun h => h) (fun k hk hlt => h.block k hlt (h3 k hk.symm)) |> fun h => Kd.R_mono h (fun _ _ => trivial), map := H.map.but h h2 }
/-- The i-th message's cells. -/
theorem Qu.at (H : Qu w q r b v l p) (i : Nat) (hi : i < l.length) : ∃ gb c, v = .slice (some ⟨gb, 0, none⟩) l.length c ∧ ∀ j u, (mv (g l i))[j]? = some u → w.cell? ⟨gb, i * 6 + j, none⟩ = some u := by
  obtain ⟨gb, cap, rfl, _, _, _⟩ := Kd.R_form H.row (by omega)
  obtain ⟨c, _, hM, hc, _⟩ := Kd.R_elem H.row ((0, 0) : Mg) (i : Int) (by omega) (by omega)
  obtain rfl := kM_openM hM
  exact ⟨gb, cap, rfl, fun j u hu => by have := hc j u hu; rw [Int.toNat_natCast] at this; exact this⟩
end
end Go.Proofs.YtaaaocckfnlgdaaGreatDoorT
/- A queue as the heap sees it. -/
namespace Go.Proofs.YtaaaocckfnlgdaaGreatDoorT
open Go.RowKit Go.Sort Go.Proofs.YtaaaocckfnlgdaaGreatDoorW.PrintWords Go.Proofs.YtaaaocckfnlgdaaGreatDoorW.PrintLast Go.Proofs.YtaaaocckfnlgdaaGreatDoorW.PrintMore Go.Proofs.YtaaaocckfnlgdaaGreatDoor.PBase Go.Proofs.YtaaaocckfnlgdaaGreatDoorH
set_option maxRecDepth 100000
set_option linter.unusedVariables false
set_option linter.unusedSimpArgs false
theorem below_grown (W : World) (q : Nat) (os : Array Obj) : Below W.heap.size W (grow (W.drewN q) os) :=
  ⟨rfl, rfl, rfl, by simp [grow, World.drewN], fun k hk => by
    show (W.heap ++ os)[k]? = _
    rw [Array.getElem?_append_left hk]⟩
section
variable {w : World} {q r b : Nat} {v : Value} {l : List Mg} {p : Mg → Prop}
set_option maxHeartbeats 1000000 in
theorem flen_calls (H : Qu w q r b v l p) : Calls Tryz.prog 115 #[.agg #[.pointer (some ⟨q, 0, none⟩)]] w fun e w' => e = .returned (.int .i64 (l.length : Int)) ∧ Below w.heap.size w w' := by
  obtain ⟨A, c, rfl⟩ := Kd.R_slice H.row
  have H1 := Aside0.mk (H.below (show Below w.heap.size w (w.alloc (.cells #[.pointer (some ⟨q, 0, none⟩)] 100)) from below_alloc (Below.refl _ _) _))
  have k1 := (blk_cell H1.out.blk 1).trans rfl
  go_enter Tryz.func115, Tryz.ntmps115
  clear H
  go_wp2
  go_ret
  exact ⟨rfl, below_alloc (Below.refl _ _) _⟩
set_option maxHeartbeats 1000000 in
theorem fless_calls (H : Qu w q r b v l p) (i k : Nat) (hi : i < l.length) (hk : k < l.length) : Calls Tryz.prog 116 #[.agg #[.pointer (some ⟨q, 0, none⟩)], .int .i64 (i : Int), .int .i64 (k : Int)] w fun e w' => e = .returned (.bool (klt (g l i) (g l k))) ∧ Below w.heap.size w w' := by
  obtain ⟨gb, c, hv, hci⟩ := H.at i hi
  obtain ⟨gb', c', hv', hck⟩ := H.at k hk
  obtain ⟨rfl, rfl⟩ : gb = gb' ∧ c = c' := by rw [hv] at hv'; simpa using hv'
  clear hv'
  subst hv
  have hi1 : (i : Int) < (l.length : Int) := by omega
  have hk1 : (k : Int) < (l.length : Int) := by omega
  rw [← cf_lt]
  generalize g l i = x at hci ⊢
  generalize g l k = y at hck ⊢
  have B1 := Aside0.mk (show Below w.heap.size w (w.alloc (.cells #[.pointer (some ⟨q, 0, none⟩)] 100)) from below_alloc (Below.refl _ _) _)
  have H1 := Aside0.mk (H.below B1.out)
  have CC := Aside0.mk (fun W => cmp_calls x y W)
  go_enter Tryz.func116, Tryz.ntmps116
  go_upto_region 1 with (fail)
  have n0 := (blk_cell (blk_new w (.cells #[.pointer (some ⟨q, 0, none⟩)] 100)) 0).trans rfl
  have k1 := (blk_cell H1.out.blk 1).trans rfl
  have i0 : _ = _ := pw_cell_below (a := ⟨gb, i * 6, none⟩) B1.out (hci 0 _ rfl)
  have i1 := pw_cell_below B1.out (hci 1 _ rfl)
  have i2 := pw_cell_below B1.out (hci 2 _ rfl)
  have j0 : _ = _ := pw_cell_below (a := ⟨gb, k * 6, none⟩) B1.out (hck 0 _ rfl)
  have j1 := pw_cell_below B1.out (hck 1 _ rfl)
  have j2 := pw_cell_below B1.out (hck 2 _ rfl)
  clear H H1 hci hck
  generalize (w.alloc (.cells #[.pointer (some ⟨q, 0, none⟩)] 100)) = W at B1 n0 k1 i0 i1 i2 j0 j1 j2 ⊢
  generalize w.heap.size = g0 at n0 ⊢
  refine wp_region_still_tail 18 (by kernel_rfl) (by kernel_rfl) ?_
  simp only [List.take_succ_cons, List.take_zero, List.drop_succ_cons, List.drop_zero]
  iterate 18 still_step
  refine wpStill_nil ?_
  have B2 := Aside0.mk (below_drew B1.out)
  clear k1 i0 i1 i2 j0 j1 j2 n0 B1
  change wpList _ _ _ _ _ W.drew
  generalize W.drew = W2 at B2 ⊢
  have C2 := Aside0.mk (show Calls Tryz.prog 42 #[.agg #[.int .i64 x.1, .int .i64 0, .int .i64 x.2], .agg #[.int .i64 y.1, .int .i64 0, .int .i64 y.2]] W2 fun e w' => e = .returned (.int .i64 (cf x y)) ∧ Below w.heap.size w w' from (CC.out W2).mono fun e w' ⟨he, q, os, hw⟩ => ⟨he, by rw [hw]; exact below_then B2.out B2.out.size (below_grown W2 q os)⟩)
  go_wp2_with (go_at_call 42; (with_reducible refine C2.out.mono ?_); rintro e w' ⟨rfl, hb⟩; have B3 := Aside0.mk hb; clear hb)
  go_ret
  exact ⟨rfl, B3.out⟩
theorem Qu.six (H : Qu w q r b v l p) (i : Nat) (hi : i < l.length) {gb c : Nat} (hv : v = .slice (some ⟨gb, 0, none⟩) l.length c) :
    w.cell? ⟨gb, i * 6, none⟩ = some (.int .i64 (g l i).1) ∧ w.cell? ⟨gb, i * 6 + 1, none⟩ = some (.int .i64 0) ∧ w.cell? ⟨gb, i * 6 + 2, none⟩ = some (.int .i64 (g l i).2) ∧ w.cell? ⟨gb, i * 6 + 3, none⟩ = some (.int .i64 1) ∧ w.cell? ⟨gb, i * 6 + 4, none⟩ = some (.int .i64 0) ∧ w.cell? ⟨gb, i * 6 + 5, none⟩ = some (.int .i64 (g l i).2) := by
  obtain ⟨gb', c', hv', hc⟩ := H.at i hi
  obtain ⟨rfl, rfl⟩ : gb = gb' ∧ c = c' := by rw [hv] at hv'; simpa using hv'
  exact ⟨hc 0 _ rfl, hc 1 _ rfl, hc 2 _ rfl, hc 3 _ rfl, hc 4 _ rfl, hc 5 _ rfl⟩
theorem Qu.sized (H : Qu w q r b v l p) (i : Nat) (hi : i < l.length) : p (g l i) := H.all _ (by rw [g_lt hi]; exact List.getElem_mem hi)
theorem But.of_grown {S : Nat → Prop} {a c : World} {row : Option Nat} (h : a.grownBy c row) (hs : ∀ k, some k = row → S k) : But S a c :=
  ⟨h.os, h.tape, h.output, h.size, fun k hk hn => h.block k hk (fun e => hn (hs k e))⟩
end
end Go.Proofs.YtaaaocckfnlgdaaGreatDoorT
