import Derived.Test.YtaaaocckfnlgdaaGreatDoorQD
import Derived.Lib.BufferMore
import Derived.Lib.OwnBridge
import Derived.BigRegion
import Derived.RegionTactic
/- container/heap's Pop over a queue; a queue's Pop. -/
namespace Go.Proofs.YtaaaocckfnlgdaaGreatDoorT
open Go.RowKit Go.Sort Go.Proofs.YtaaaocckfnlgdaaGreatDoorW.PrintWords Go.Proofs.YtaaaocckfnlgdaaGreatDoorW.PrintLast Go.Proofs.YtaaaocckfnlgdaaGreatDoorW.PrintMore Go.Proofs.YtaaaocckfnlgdaaGreatDoor.PBase Go.Proofs.YtaaaocckfnlgdaaGreatDoorH Go.Proofs.YtaaaocckfnlgdaaGreatDoorK
set_option maxRecDepth 100000
set_option linter.unusedVariables false
set_option linter.unusedSimpArgs false
section
variable {w : World} {q r b : Nat} {v : Value} {l : List Mg} {p : Mg → Prop}
theorem take_last (l : List Mg) (n : Nat) (h : l.length = n + 1) : l.take n ++ [g l n] = l := by
  rw [g_lt (by omega)]
  rw [← List.take_succ_eq_append_getElem (by omega)]
  exact List.take_of_length_le (by omega)
set_option maxHeartbeats 4000000 in
theorem hpop_calls (H : Qu w q r b v l p) (hh : HeapN l l.length) (n : Nat) (hl : l.length = n + 1) (hs : n ≤ 900) : Calls Tryz.prog 45 #[fv q] w fun e w' => e = .returned (.iface 41 (mvv (g l 0))) ∧ ∃ v' l', Qu w' q r b v' l' p ∧ HeapN l' l'.length ∧ (g l 0 :: l').Perm l ∧ But (Zq q r v) w w' ∧ v'.ownBlock = v.ownBlock := by
  have C1 := Aside0.mk (flen_calls H)
  have C2 := Aside0.mk (fun W (hW : Below w.heap.size w W) => fswap_calls (H.below hW) 0 n (by omega) (by omega))
  have DS := Aside0.mk (dn_start (hl ▸ hh) hl)
  have HL := Aside0.mk (show l.length = n + 1 ∧ n ≤ 900 ∧ (sw l 0 n).length = n + 1 ∧ (sw l 0 n).Perm l ∧ g (sw l 0 n) n = g l 0 from ⟨hl, hs, by rw [sw_len]; exact hl, sw_perm l 0 n (by omega) (by omega), by rw [sw_g l 0 n n (by omega) (by omega), if_pos rfl]⟩)
  rw [hl] at C1
  have hwn : wrap64 ((n : Int)) = (n : Int) := by unfold wrap64; omega
  clear H hh hl
  go_enter Tryz.func45, Tryz.ntmps45
  unfold fv
  have ml := meth_len q
  have ms := meth_swap q
  have mp := meth_pop q
  go_upto_region 2 with (go_at_call 115; (with_reducible refine C1.out.mono ?_); rintro e w2 ⟨rfl, hb⟩; have B2 := Aside0.mk hb; clear hb)
  have c2 := C2.out _ B2.out
  rw [show ((0 : Nat) : Int) = 0 from rfl] at c2
  have C2' := Aside0.mk c2
  clear c2
  go_upto_region 3 with (go_at_call 119; (with_reducible refine C2'.out.mono ?_); rintro e w3 ⟨rfl, hq, hb⟩; have Q3 := Aside0.mk hq; have B3 := Aside0.mk hb; clear hq hb)
  have c3 := down_calls Q3.out n (by have := HL.out.2.2.1; omega) (by have := HL.out; omega) DS.out
  unfold fv at c3
  have C3 := Aside0.mk c3
  clear c3
  go_upto_region 4 with (go_at_call 70; (with_reducible refine C3.out.mono ?_); rintro e w4 ⟨⟨bb, rfl⟩, l4, hq, hp, hh, hr, hb⟩; have Q4 := Aside0.mk hq; have P4 := Aside0.mk hp; have E4 := Aside0.mk hh; have R4 := Aside0.mk (hr n (Nat.le_refl _)); have B4 := Aside0.mk hb; clear hq hp hh hr hb)
  have L4 := Aside0.mk (show l4.length = n + 1 from by have := P4.out.length_eq; have := HL.out.2.2.1; omega)
  have C4 := Aside0.mk (fpop_calls Q4.out n L4.out (by have := HL.out.2.1; omega))
  rw [R4.out, HL.out.2.2.2.2] at C4
  go_wp2_with (go_at_call 117; (with_reducible refine C4.out.mono ?_); rintro e w5 ⟨rfl, v5, hq, hb, hv⟩; have Q5 := Aside0.mk hq; have B5 := Aside0.mk hb; have V5 := Aside0.mk hv; clear hq hb hv)
  go_ret
  refine ⟨rfl, v5, _, Q5.out, heap_take E4.out (by have := L4.out; omega), ?_, ((((But.of_below B2.out).trans B3.out).trans B4.out).trans B5.out), V5.out⟩
  have e := take_last l4 n L4.out
  rw [R4.out, HL.out.2.2.2.2] at e
  have h1 : (l4.take n ++ [g l 0]).Perm l := by rw [e]; exact P4.out.trans HL.out.2.2.2.1
  exact (List.perm_append_singleton _ _).symm.trans h1
theorem blk_six {W : World} {g0 t : Nat} {a0 a1 a2 a3 a4 a5 : Value} (h : W.heap[g0]? = some (.cells #[a0, a1, a2, a3, a4, a5] t (0, 0))) (x0 x1 x2 x3 x4 x5 : Value) :
    (W.setCells g0 0 [x0, x1, x2, x3, x4, x5]).heap[g0]? = some (.cells #[x0, x1, x2, x3, x4, x5] t (0, 0)) :=
  blk_put (blk_put (blk_put (blk_put (blk_put (blk_put h 0 x0 rfl) 1 x1 rfl) 2 x2 rfl) 3 x3 rfl) 4 x4 rfl) 5 x5 rfl
theorem but_setCells {W : World} {g0 : Nat} : ∀ (vs : List Value) (s : Nat), But (fun k => k = g0) W (W.setCells g0 s vs)
  | [], s => But.refl _ _
  | v :: r, s => by
    unfold World.setCells
    exact (But.set (S := fun k => k = g0) (But.refl _ W) (p := ⟨g0, s, none⟩) rfl v).trans (but_setCells r (s + 1))
theorem wpk_store {ops : Array Oper} {rest : List Oper} {o : Oper} {a : Act} {Q : Exit → Act → World → Prop} {W W1 : World} {t : TypeId} (hg : o.guard = none) (x y : Operand) (ho : o.op = .store t x y) (hrun : (Instr.storeAt t (a.eval x) (a.eval y)).run Tryz.prog W = .ok () W1)
    (h : wpList Tryz.prog ops Q rest (a.put o.dst undef) W1) : wpList Tryz.prog ops Q (o :: rest) a W := by
  refine wpList_plain hg fun K' hK' => ?_
  unfold Oper.wp execOp
  simp only [ho, Sem.run_bind, Sem.run_pure, Result.andThen_ok, hrun]
  exact hK' _ _ h
set_option maxHeartbeats 4000000 in
theorem qpop_calls (H : Qu w q r b v l p) (hh : HeapN l l.length) (n : Nat) (hl : l.length = n + 1) (hs : n ≤ 900) : Calls Tryz.prog 24 #[.pointer (some ⟨q, 0, none⟩)] w fun e w' => e = .returned (.tuple #[mvv (g l 0), .bool true]) ∧ ∃ v' l', Qu w' q r b v' l' p ∧ HeapN l' l'.length ∧ (g l 0 :: l').Perm l ∧ But (Zq q r v) w w' ∧ v'.ownBlock = v.ownBlock := by
  obtain ⟨A, c, hv⟩ := Kd.R_slice H.row
  have B1 := Aside0.mk (show Below w.heap.size w (w.alloc (.cells #[.int .i64 0, .int .i64 0, .int .i64 0, .int .i64 0, .int .i64 0, .int .i64 0] 41 (0, 0))) from below_alloc (Below.refl _ _) _)
  have H1 := Aside0.mk (H.below B1.out)
  have N0 := Aside0.mk (blk_new w (.cells #[.int .i64 0, .int .i64 0, .int .i64 0, .int .i64 0, .int .i64 0, .int .i64 0] 41 (0, 0)))
  have HG := Aside0.mk (show w.heap.size ≠ q ∧ w.heap.size ≠ r ∧ some w.heap.size ≠ v.ownBlock from by
    have h1 := blk_lt H.blk
    obtain ⟨es, cc, h, _⟩ := H.map
    have h2 := blk_lt h
    exact ⟨by omega, by omega, fun e => by have := Kd.R_lt H.row _ e.symm; omega⟩)
  have HL := Aside0.mk (And.intro hl (And.intro hs hh))
  have hz : ((l.length : Int) == 0) = false := by rw [hl]; simp; omega
  clear H hh hl
  go_enter Tryz.func24, Tryz.ntmps24
  unfold mvv
  go_upto_region 1 with (fail)
  generalize (w.alloc (.cells #[.int .i64 0, .int .i64 0, .int .i64 0, .int .i64 0, .int .i64 0, .int .i64 0] 41 (0, 0))) = W at B1 H1 N0 ⊢
  generalize hg0 : w.heap.size = g0 at N0 HG ⊢
  have HE := Aside0.mk hg0
  clear hg0
  have k1 : W.cell? ⟨q, 1, none⟩ = some (.slice A l.length c) := ((blk_cell H1.out.blk 1).trans rfl).trans (congrArg some hv)
  have cp := hpop_calls H1.out HL.out.2.2 n HL.out.1 HL.out.2.1
  unfold fv mvv at cp
  have CP := Aside0.mk cp
  clear cp
  have hta := fun W => run_ta (.agg #[.int .i64 (g l 0).1, .int .i64 0, .int .i64 (g l 0).2, .int .i64 1, .int .i64 0, .int .i64 (g l 0).2]) W
  go_wp2_with (first
    | (go_at_call 45; (with_reducible refine CP.out.mono ?_); rintro e w5 ⟨rfl, v5, l5, hq, hh, hp, hb, hv⟩; have Q5 := Aside0.mk hq; have E5 := Aside0.mk hh; have P5 := Aside0.mk hp; have B5 := Aside0.mk hb; have V5 := Aside0.mk hv; clear hq hh hp hb hv; have N5 := Aside0.mk (B5.out.blk N0.out (fun h => h.elim HG.out.1 (fun h => h.elim HG.out.2.1 HG.out.2.2))))
    | (refine wpk_store rfl (.tmp 2) (.tmp 15) rfl (run_store_run 41 _ (mv (g l 0)) N5.out rfl (by kernel_rfl) (by simp [mv]) (by simp [mv, Value.oneCell'])) ?_))
  refine bodyPost_ret (results_list (rs := [.cell 2 41, .tmp 3]) rfl (by simp) (.cell g0 41 #[.int .i64 (g l 0).1, .int .i64 0, .int .i64 (g l 0).2, .int .i64 1, .int .i64 0, .int .i64 (g l 0).2] (0, 0) _ rfl (blk_six N5.out _ _ _ _ _ _) Tryz.underlying41 rfl (by kernel_rfl) (.tmp .nil))) rfl ?_
  have BS := but_setCells (W := w5) (g0 := g0) (mv (g l 0)) 0
  refine ⟨rfl, v5, l5, Q5.out.but BS (fun e => HG.out.1 e.symm) (fun e => HG.out.2.1 e.symm) (fun k hk e => HG.out.2.2 (by rw [← V5.out, hk, e])), E5.out, P5.out, ?_, V5.out⟩
  refine ⟨BS.os.trans (B5.out.os.trans B1.out.os), BS.tape.trans (B5.out.tape.trans B1.out.tape), BS.output.trans (B5.out.output.trans B1.out.output), Nat.le_trans B1.out.size (Nat.le_trans B5.out.size BS.size), fun i hi hn => ?_⟩
  have h1 : i < W.heap.size := Nat.lt_of_lt_of_le hi B1.out.size
  exact (BS.block i (Nat.lt_of_lt_of_le h1 B5.out.size) (fun e => by have := HE.out; omega)).trans ((B5.out.block i h1 hn).trans (B1.out.block i hi))
end
end Go.Proofs.YtaaaocckfnlgdaaGreatDoorT
/- A row of messages is cloned. -/
namespace Go.Proofs.YtaaaocckfnlgdaaGreatDoorT
open Go.RowKit Go.Sort Go.Proofs.YtaaaocckfnlgdaaGreatDoorW.PrintWords Go.Proofs.YtaaaocckfnlgdaaGreatDoorW.PrintLast Go.Proofs.YtaaaocckfnlgdaaGreatDoorW.PrintMore Go.Proofs.YtaaaocckfnlgdaaGreatDoor.PBase Go.Proofs.YtaaaocckfnlgdaaGreatDoorH Go.Proofs.YtaaaocckfnlgdaaGreatDoorK
set_option linter.unusedVariables false
set_option linter.unusedSimpArgs false
def mclone.f (l0 : List Mg) : Option (List Mg) := if l0.length < 1000000 then some l0 else none
set_option maxRecDepth 100000 in
set_option maxHeartbeats 1000000 in
theorem mclone.calls (A0 : Option Addr) (c0 : Nat) (l0 : List Mg) (r : List Mg) (w : World) (hr0 : Kd.C kM w A0 l0.length l0) (hc0 : l0.length ≤ c0) (h : mclone.f l0 = some r) :
    Calls Tryz.prog 39 #[.slice A0 l0.length c0] w fun e w' => ∃ v0_ : Value, e = .returned (v0_) ∧ Kd.R kM 41 w' w.heap.size (fun _ => True) v0_ r ∧ Below w.heap.size w w' := by
  unfold mclone.f at h
  by_cases hl : l0.length < 1000000
  · rw [if_pos hl] at h
    obtain rfl := Option.some.inj h
    clear h
    cases A0 with
    | none =>
      have hn : l0 = [] := by
        rcases l0 with _ | ⟨x, l⟩
        · rfl
        · obtain ⟨ad, e, _⟩ := hr0.2.2 (by simp)
          cases e
      have HN := Aside0.mk hn
      clear hn hr0
      have heq := fun W => Lib.run_eql_slice_nil_nil (P := Tryz.prog) W (t := 27) (e := 41) l0.length c0 Tryz.underlying27
      go_enter Tryz.func39, Tryz.ntmps39
      go_wp2
      go_ret
      refine ⟨_, rfl, ?_, Below.refl _ _⟩
      rw [HN.out]
      exact Kd.R_nil _ _ _ _ _
    | some ad =>
      have HR := Aside0.mk hr0
      clear hr0
      have heq := fun W => Lib.run_eql_slice_some_nil (P := Tryz.prog) W (t := 27) (e := 41) ad l0.length c0 Tryz.underlying27
      go_enter Tryz.func39, Tryz.ntmps39
      go_wp2_with (first
        | ((with_reducible refine gate_dst (N := 5) rfl ?_); refine Kd.R_lit kM _ 41 ?hg (N := 5) ?hd (xs := ([] : List (Mg))) (inner := []) (ok := fun _ => True) (okp := fun _ => True) ?hr ?hp (fun _ hk => hk) trivial (Below.refl _ _) (Nat.le_refl _) (by simp) ?_; (case hd => rfl); (case hg => rfl); (case hr => first | (go_simp; done) | (go_simp; rfl)); (case hp => exact (Reps.none _ _)); intro v1 w1 ho1 hb1 hg_ hnew_; clear hg_ hnew_; have HO := Aside0.mk ho1; have HB := Aside0.mk hb1; clear ho1 hb1)
        | ((with_reducible refine gate_builtin (b := .append) (xs := #[.tmp 5, .tmp 6]) rfl ?_); at_builtin; refine Kd.R_append_rows kM (w0 := w) w.heap.size rfl (.tmp 5) (.tmp 6) 27 41 (.agg #[.int .i64 0, .int .i64 0, .int .i64 0, .int .i64 0, .int .i64 0, .int .i64 0]) 48 rfl Tryz.underlying27 msgInfo rfl (by decide) (by omega) v1 [] l0 _ _ _ (fun _ => True) (fun _ => False) rfl rfl ?aO ?aR (fun _ _ h => h) (fun _ h => h.elim) ?aF ?aB ?aS ?aL ?_; (case aO => exact HO.out); (case aR => exact Kd.C_below HR.out HB.out); (case aF => exact fun _ _ => trivial); (case aB => exact HB.out); (case aS => exact HB.out.size); (case aL => simp; omega); intro v2 w2 ho2 hb2 hg2 hat2; have HO2 := Aside0.mk ho2; have HB2 := Aside0.mk hb2; clear ho2 hb2 hg2 hat2))
      go_ret
      refine ⟨_, rfl, ?_, HB2.out⟩
      simpa using HO2.out
  · rw [if_neg hl] at h
    cases h
end Go.Proofs.YtaaaocckfnlgdaaGreatDoorT
/- A queue's List: a row of its own, sorted. -/
namespace Go.Proofs.YtaaaocckfnlgdaaGreatDoorT
open Go.Shelf Go.RowKit Go.Lib Go.Sort Go.Proofs.YtaaaocckfnlgdaaGreatDoorW.PrintWords Go.Proofs.YtaaaocckfnlgdaaGreatDoorW.PrintLast Go.Proofs.YtaaaocckfnlgdaaGreatDoorW.PrintMore Go.Proofs.YtaaaocckfnlgdaaGreatDoor.PBase Go.Proofs.YtaaaocckfnlgdaaGreatDoorH Go.Proofs.YtaaaocckfnlgdaaGreatDoorK
set_option maxRecDepth 100000
set_option linter.unusedVariables false
set_option linter.unusedSimpArgs false
set_option maxHeartbeats 1000000 in
theorem ins_zero (A : Option Addr) (c : Nat) (v : Value) (w : World) : Calls Tryz.prog 76 #[.slice A 0 c, .int .i64 0, .int .i64 0, v] w fun e w' => e = .returned (.tuple #[]) ∧ w = w' := by
  go_enter Tryz.func76, Tryz.ntmps76
  go_wp2
  go_loopw [8, 9] (fun v8 v9 wr => v8 = .int .i64 1 ∧ w = wr) (fun _ _ _ => 0)
  case atStart => exact ⟨rfl, rfl⟩
  case round =>
    obtain ⟨rfl, rfl⟩ := hrel
    go_wp2
    go_end0
    exact ⟨rfl, rfl⟩
set_option maxHeartbeats 1000000 in
theorem len_nought (w : World) : Calls Tryz.prog 65 #[.int .u64 0] w fun e w' => e = .returned (.int .i64 0) ∧ w = w' := by
  go_enter Tryz.func65, Tryz.ntmps65
  go_wp2
  go_ret
  exact ⟨by kernel_rfl, rfl⟩
set_option maxHeartbeats 1000000 in
theorem pdq_zero (A : Option Addr) (c : Nat) (l : Int) (v : Value) (w : World) : Calls Tryz.prog 64 #[.slice A 0 c, .int .i64 0, .int .i64 0, .int .i64 l, v] w fun e w' => e = .returned (.tuple #[]) ∧ w = w' := by
  have CI := Aside0.mk (ins_zero A c v w)
  go_enter Tryz.func64, Tryz.ntmps64
  go_wp2
  refine wp_loop_once ?_
  go_wp2_with (go_at_call 76; (with_reducible refine CI.out.mono ?_); rintro e w1 ⟨rfl, rfl⟩)
  try simp only [Exit.inBlock, Exit.then]
  refine bodyPost_ret (results_none rfl _ _ _) rfl ?_
  exact ⟨rfl, rfl⟩
set_option maxHeartbeats 1000000 in
theorem sort_zero (A : Option Addr) (c : Nat) (v : Value) (w : World) : Calls Tryz.prog 40 #[.slice A 0 c, v] w fun e w' => e = .returned (.tuple #[]) ∧ w = w' := by
  have CL := Aside0.mk (len_nought w)
  have CP := Aside0.mk (fun l => pdq_zero A c l v w)
  go_enter Tryz.func40, Tryz.ntmps40
  go_wp2_with (first | (go_at_call 65; (with_reducible refine CL.out.mono ?_); rintro e w1 ⟨rfl, rfl⟩) | (go_at_call 64; (with_reducible refine (CP.out _).mono ?_); rintro e w2 ⟨rfl, rfl⟩))
  go_end0
  exact ⟨rfl, rfl⟩
theorem mv_len (x : Mg) : (mv x).length = 6 := rfl
theorem mv_one (x : Mg) : ∀ v ∈ mv x, v.oneCell' = true := by simp [mv, Value.oneCell']
theorem ltOf_cf (x y : Mg) : ltOf cf x y = klt x y := cf_lt x y
theorem swo_cf : SWO (ltOf cf) where
  irrefl x := by rw [ltOf_cf]; simp [klt]
  trans x y z h1 h2 := by
    rw [ltOf_cf] at *
    simp only [klt, Bool.or_eq_true, Bool.and_eq_true, decide_eq_true_eq] at *
    omega
  ntrans x y z h1 h2 := by
    rw [ltOf_cf] at *
    simp only [klt, Bool.or_eq_false_iff, Bool.and_eq_false_iff, decide_eq_false_iff_not] at *
    omega
theorem holds_row {W : World} {b gb c : Nat} {ok : Nat → Prop} {l : List Mg} (HO : kM.R 41 W b ok (.slice (some ⟨gb, 0, none⟩) l.length c) l) : HoldsK mv 6 W gb 0 l.toArray := by
  intro t ht
  have ht' : t < l.length * 6 := by simpa using ht
  obtain ⟨c1, hcl, hM, hc, hf⟩ := Kd.R_elem HO ((0, 0) : Mg) ((t / 6 : Nat) : Int) (by omega) (by omega)
  obtain rfl := kM_openM hM
  rw [Int.toNat_natCast, kM_sz] at hc hf
  have hd : t / 6 * 6 + t % 6 = t := by omega
  have h6 : t % 6 < 6 := Nat.mod_lt _ (by omega)
  have e : (flatK mv 6 l.toArray)[t]! = (mv (l.getD (t / 6) (0, 0)))[t % 6]! := by
    rw [get_flatK _ _ _ _ (by simpa using ht')]
    have : l.toArray[t / 6]! = l.getD (t / 6) (0, 0) := by
      have hlt : t / 6 < l.length := by omega
      rw [List.getD_eq_getElem?_getD, List.getElem?_eq_getElem hlt]
      simp [hlt]
    rw [this]
  have h := hc (t % 6) _ (List.getElem?_eq_getElem (by rw [mv_len]; exact h6))
  rw [hd] at h
  have h2 := hf (t % 6)
  rw [hd] at h2
  rw [Nat.zero_add]
  refine ⟨h.trans ?_, h2⟩
  show _ = some (flatK mv 6 l.toArray)[t]!
  rw [e, getElem!_pos (mv (l.getD (t / 6) (0, 0))) (t % 6) (by rw [mv_len]; exact h6)]
theorem row_holds {W : World} {gb : Nat} {d : Array Mg} (H : HoldsK mv 6 W gb 0 d) (hm : d.size ≤ 1000) : Kd.C kM W (some ⟨gb, 0, none⟩) d.size d.toList := by
  refine ⟨by simp, by omega, fun _ => ⟨_, rfl, fun j p hp => ⟨mv p, mv_len p, ?_, fun i u hu => ?_⟩⟩⟩
  · exact kM.K_of_M (kM_mkM W 0 (fun _ => True) p)
  · obtain ⟨hj, hp'⟩ := List.getElem?_eq_some_iff.1 hp
    obtain ⟨hi, hu'⟩ := List.getElem?_eq_some_iff.1 hu
    have hj' : j < d.size := by simpa using hj
    have h := (HoldsK.cell H hj' hi).1
    rw [Nat.zero_add] at h
    have e1 : d[j]! = p := by rw [getElem!_pos d j hj']; exact hp'
    rw [e1, getElem!_pos (mv p) i hi, hu'] at h
    show W.cell? (Addr.add ⟨gb, 0, none⟩ (j * kM.sz + i)) = some u
    rw [kM_sz]
    unfold Addr.add
    split
    · rename_i he
      rw [he] at h
      exact h
    · rw [Nat.zero_add]
      exact h
theorem below_sortK {w0 w : World} {B gb n : Nat} {d : Array Mg} {os : Array Obj} (h : Below B w0 w) (hg : B ≤ gb) (hw : gb < w.heap.size) : Below B w0 (sortWorldK mv 6 w gb 0 n d os) := by
  have h1 : Below B w0 (putRow id (Sort.ahead w n) gb 0 (flatK mv 6 d)) := Lib.below_putRow h hg
  exact h1.trans ⟨rfl, rfl, rfl, by simp [sortWorldK, putRowK, grow], fun k hk => by
    have hk' : k < (putRow id (Sort.ahead w n) gb 0 (flatK mv 6 d)).heap.size := by
      rw [size_putRow]
      show k < w.heap.size
      omega
    show ((putRow id (Sort.ahead w n) gb 0 (flatK mv 6 d)).heap ++ os)[k]? = _
    rw [Array.getElem?_append_left hk']⟩
theorem cmp_lays (blk off size : Nat) (w : World) : CmpLays Tryz.prog 41 #[] mv 6 cf blk off size w :=
  fun m os dk _ x y => less_closure (mv x) (mv y) x.1 x.2 y.1 y.2 rfl rfl _
theorem sorted_asc {d : Array Mg} (h : SortedIn (ltOf cf) 0 d.size d) : Asc (d.toList.map (·.1)) := by
  unfold Asc
  rw [List.pairwise_map, List.pairwise_iff_getElem]
  intro i j hi hj hij
  have hi' : i < d.size := by simpa using hi
  have hj' : j < d.size := by simpa using hj
  have := h i j (Nat.zero_le _) hij hj'
  rw [ltOf_cf, getElem!_pos d i hi', getElem!_pos d j hj'] at this
  have := klt_no this
  simpa using this
section
variable {w : World} {q r b : Nat} {v : Value} {l : List Mg} {p : Mg → Prop}
set_option maxHeartbeats 4000000 in
theorem qlist_calls (H : Qu w q r b v l p) (hl : l.length ≤ 900) : Calls Tryz.prog 22 #[.pointer (some ⟨q, 0, none⟩)] w fun e w' => ∃ A c ls, e = .returned (.slice A ls.length c) ∧ Kd.C kM w' A ls.length ls ∧ ls.Perm l ∧ Asc (ls.map (·.1)) ∧ Below w.heap.size w w' := by
  obtain ⟨A, c, rfl⟩ := Kd.R_slice H.row
  obtain ⟨_, hlc, hC⟩ := Kd.R_reads' H.row
  have k1 : w.cell? ⟨q, 1, none⟩ = some (.slice A l.length c) := (blk_cell H.blk 1).trans rfl
  have CC := Aside0.mk (mclone.calls A c l l w hC hlc (by unfold mclone.f; rw [if_pos (by omega)]))
  have HL := Aside0.mk hl
  clear H hC hlc hl
  go_enter Tryz.func22, Tryz.ntmps22
  go_upto_region 2 with (go_at_call 39; (with_reducible refine CC.out.mono ?_); rintro e w1 ⟨v1, rfl, hr, hb⟩; have R1 := Aside0.mk hr; have B1 := Aside0.mk hb; clear hr hb)
  obtain ⟨A1, c1, e1⟩ := Kd.R_slice R1.out
  subst e1
  by_cases h0 : l = []
  · subst h0
    have cs := sort_zero A1 c1 (.func (.func 41) #[] #[]) w1
    have CS := Aside0.mk cs
    clear cs
    simp only [List.length_nil]
    go_wp2_with (go_at_call 40; (with_reducible refine CS.out.mono ?_); rintro e w2 ⟨rfl, rfl⟩)
    go_ret
    exact ⟨A1, c1, [], rfl, ⟨rfl, by simp, fun h => absurd h (Nat.lt_irrefl 0)⟩, List.Perm.refl _, List.Pairwise.nil, B1.out⟩
  · have hpos : 0 < l.length := List.length_pos_iff.2 h0
    obtain ⟨gb, cap, ev, hbg, hgw, _⟩ := Kd.R_form R1.out hpos
    injection ev with ea _ ec
    subst ea; subst ec
    have HH := holds_row R1.out
    have eg : ∀ args w, (callFunc 41 args).run Tryz.prog w = .ok (.enter 41 args) w := enters_of Tryz.func41 (by kernel_rfl) rfl
    have cs := AnyQ.slices_SortFunc sortMsg 6 Tryz.isAgg41 Tryz.sizeOf41 mv mv_len mv_one cf swo_cf 41 #[] gb 0 c1 l.toArray w1 eg (cmp_lays gb 0 _ w1) HH hgw (by simp; have := HL.out; omega)
    change Calls Tryz.prog 40 _ _ _ at cs
    rw [List.size_toArray] at cs
    have CS := Aside0.mk cs
    have HX := Aside0.mk (And.intro HH (And.intro hgw hbg))
    clear cs HH h0 hpos
    go_wp2_with (go_at_call 40; (with_reducible refine CS.out.mono ?_); rintro e w2 ⟨rfl, d', n, os, hp, hs, hw⟩; have W2 := Aside0.mk hw; have P2 := Aside0.mk hp; have S2 := Aside0.mk hs; clear hw hp hs)
    go_ret
    have hsz : d'.size = l.length := by have := P2.out.1; simpa using this
    have hl' : d'.toList.length = l.length := by simpa using hsz
    refine ⟨some ⟨gb, 0, none⟩, c1, d'.toList, by rw [hl']; rfl, ?_, ?_, ?_, ?_⟩
    · rw [W2.out, Array.length_toList]
      exact row_holds (holdsK_sortWorldK_c mv 6 w1 gb 0 l.toArray d' n os HX.out.1 HX.out.2.1 P2.out.1) (by have := HL.out; omega)
    · have := P2.out.2.2
      have e1 : (d'.extract 0 l.length) = d' := by rw [← hsz]; simp
      have e2 : (l.toArray.extract 0 l.length) = l.toArray := by simp
      rw [e1, e2] at this
      exact this
    · exact sorted_asc (hsz ▸ S2.out)
    · rw [W2.out]
      exact below_sortK B1.out HX.out.2.2 HX.out.2.1
end
end Go.Proofs.YtaaaocckfnlgdaaGreatDoorT
/- grant: what an ask for the next message comes to. Printed by wip/top/mkgrant.py. -/
namespace Go.Proofs.YtaaaocckfnlgdaaGreatDoorT
open Go.Shelf Go.RowKit Go.Lib Go.Sort Go.Proofs.YtaaaocckfnlgdaaGreatDoorW.PrintWords Go.Proofs.YtaaaocckfnlgdaaGreatDoorW.PrintLast Go.Proofs.YtaaaocckfnlgdaaGreatDoorW.PrintMore Go.Proofs.YtaaaocckfnlgdaaGreatDoor.PBase Go.Proofs.YtaaaocckfnlgdaaGreatDoorH Go.Proofs.YtaaaocckfnlgdaaGreatDoorK
set_option maxRecDepth 100000
set_option linter.unusedVariables false
set_option linter.unusedSimpArgs false
set_option maxHeartbeats 1000000 in
theorem closure69 (ba bx blk cap n i : Nat) (x y : Int) (W : World) (hi : i < n) (ha : W.cell? ⟨ba, 0, none⟩ = some (.slice (some ⟨blk, 0, none⟩) n cap)) (hx : W.cell? ⟨bx, 0, none⟩ = some (.int .i64 x)) (hc : W.cell? ⟨blk, i, none⟩ = some (.int .i64 y)) :
    Calls Tryz.prog 69 (#[.int .i64 (i : Int)] ++ #[.pointer (some ⟨ba, 0, none⟩), .pointer (some ⟨bx, 0, none⟩)]) W fun e w' => e = .returned (.bool (decide (x < y))) ∧ ∃ q, w' = W.drewN q := by
  have hiz : (i : Int) < (n : Int) := by omega
  go_enter Tryz.func69, Tryz.ntmps69
  go_wp2
  go_region
  all_goals go_wp2
  all_goals go_ret
  all_goals exact ⟨by first | rfl | simp, 1, rfl⟩
/-- How many are at most x. -/
def upto (ts : List Int) (x : Int) : Nat := (List.range ts.length).countP fun i => !decide (x < ts.getD i 0)
set_option maxHeartbeats 2000000 in
theorem upTo_calls (blk c : Nat) (ts : List Int) (x : Int) (w : World) (hc : ∀ i, i < ts.length → w.cell? ⟨blk, i, none⟩ = some (.int .i64 (ts.getD i 0))) (hb : blk < w.heap.size) (hl : ts.length ≤ 1000) (hs : Asc ts) :
    Calls Tryz.prog 43 #[.slice (some ⟨blk, 0, none⟩) ts.length c, .int .i64 x] w fun e w' => e = .returned (.int .i64 (upto ts x : Nat)) ∧ Below w.heap.size w w' := by
  obtain ⟨W0, hW0⟩ : ∃ W0, W0 = (w.alloc (.cells #[.slice (some ⟨blk, 0, none⟩) ts.length c] 35)).alloc (.cells #[.int .i64 x] 3) := ⟨_, rfl⟩
  have B0 : Below w.heap.size w W0 := by rw [hW0]; exact below_alloc (below_alloc (Below.refl _ _) _) _
  have ha : W0.heap[w.heap.size]? = some (.cells #[.slice (some ⟨blk, 0, none⟩) ts.length c] 35 (0, 0)) := by rw [hW0]; exact blk_alloc (blk_new w _) _
  have hx : W0.heap[w.heap.size + 1]? = some (.cells #[.int .i64 x] 3 (0, 0)) := by
    rw [hW0]
    have := blk_new (w.alloc (.cells #[.slice (some ⟨blk, 0, none⟩) ts.length c] 35)) (.cells #[.int .i64 x] 3)
    rwa [World.size_alloc] at this
  have hcc : ∀ i, i < ts.length → W0.cell? ⟨blk, i, none⟩ = some (.int .i64 (ts.getD i 0)) := fun i hi => pw_cell_below B0 (hc i hi)
  have eg : ∀ args w, (callFunc 69 args).run Tryz.prog w = .ok (.enter 69 args) w := enters_of Tryz.func69 (by kernel_rfl) rfl
  have cs := Any.sort_Search searchT 69 #[.pointer (some ⟨w.heap.size, 0, none⟩), .pointer (some ⟨w.heap.size + 1, 0, none⟩)] ts.length (fun i => decide (x < ts.getD i 0)) W0 eg (by omega)
    (fun m os i hi => (closure69 w.heap.size (w.heap.size + 1) blk c ts.length i x (ts.getD i 0) _ hi (cell_grown (blk_lt ha) ((blk_cell ha 0).trans rfl) m os) (cell_grown (blk_lt hx) ((blk_cell hx 0).trans rfl) m os) (cell_grown (Nat.lt_of_lt_of_le hb B0.size) (hcc i hi) m os)).mono
      fun _ _ ⟨he, q, hq⟩ => ⟨he, q, #[], by rw [hq, grow_empty]⟩)
    (fun a b hab hbl h => by
      have h1 : ts.getD a 0 ≤ ts.getD b 0 := by
        rw [List.getD_eq_getElem?_getD, List.getD_eq_getElem?_getD, List.getElem?_eq_getElem hbl, List.getElem?_eq_getElem (show a < ts.length by omega)]
        rcases Nat.lt_or_ge a b with hlt | hge
        · exact List.pairwise_iff_getElem.1 hs a b (by omega) hbl hlt
        · obtain rfl : a = b := by omega
          exact Int.le_refl _
      simp only [decide_eq_true_eq] at h ⊢
      omega)
  change Calls Tryz.prog 68 _ _ _ at cs
  rw [show (List.range ts.length).countP (fun i => !decide (x < ts.getD i 0)) = upto ts x from rfl] at cs
  have CS := Aside0.mk cs
  have BB := Aside0.mk B0
  clear cs ha hx hcc hc eg hs B0
  generalize upto ts x = r at CS ⊢
  go_enter Tryz.func43, Tryz.ntmps43
  go_wp2_with (go_at_call 68; rw [← hW0]; (with_reducible refine CS.out.mono ?_); rintro e w' ⟨rfl, q, os, rfl⟩)
  go_ret
  exact ⟨rfl, by rw [← hW0]; exact below_then BB.out BB.out.size (below_grown _ q os)⟩
set_option maxHeartbeats 2000000 in
/-- The next message is granted. -/
theorem next_yes (blk c : Nat) (ts : List Int) (t0 ask time bound : Int) (w : World) (hc : ∀ i, i < ts.length → w.cell? ⟨blk, i, none⟩ = some (.int .i64 (ts.getD i 0))) (hb : blk < w.heap.size) (hl : ts.length ≤ 1000) (hs : Asc ts) (hp : 0 < ts.length) (ht : ts.getD 0 0 = t0)
    (ha : t0 ≤ ask) (hbd : t0 < bound) (htm : time ≤ t0) (hn : 0 < upto ts t0) :
    Calls Tryz.prog 44 #[.int .i64 ask, .int .i64 time, .int .i64 bound, .slice (some ⟨blk, 0, none⟩) ts.length c] w fun e w' => e = .returned (.tuple #[.bool true, .int .i64 t0, .int .i64 (upto ts t0 : Nat)]) ∧ Below w.heap.size w w' := by
  have h0 : w.cell? ⟨blk, 0, none⟩ = some (.int .i64 t0) := by have := hc 0 hp; rwa [ht] at this
  have CU := Aside0.mk (fun W (hW : Below w.heap.size w W) => upTo_calls blk c ts t0 W (fun i hi => pw_cell_below hW (hc i hi)) (Nat.lt_of_lt_of_le hb hW.size) hl hs)
  have hp1 : (0 : Int) < (ts.length : Int) := by omega
  have hn1 : (0 : Int) < (upto ts t0 : Int) := by omega
  have hbd1 : ¬ bound ≤ t0 := by omega
  generalize upto ts t0 = r at CU hn1 ⊢
  clear hc hs hn hp ht hl hb
  go_enter Tryz.func44, Tryz.ntmps44
  go_upto_region 3 with (fail)
  refine Till.begin (fun w' => w'.cell? ⟨blk, 0, none⟩ = some (.int .i64 t0)) (fun _ => True) [] (by kernel_rfl) ?_
  have hS : (fun w' => w'.cell? ⟨blk, 0, none⟩ = some (.int .i64 t0)) w.drew := h0
  refine Till.takeS 0 (v := ?_) rfl (by kernel_rfl) (by kernel_rfl) (by kernel_rfl) (fun _ _ _ h => h) (Or.inl ⟨by rfl, ?_⟩) hS ?_
  rotate_left; · (intro w hSw; (try dsimp only at hSw); go_simp; try with_reducible rfl)
  try simp only [Act.put, List.setIfInBounds_toArray, List.set_cons_zero, List.set_cons_succ]
  refine Till.takeS 1 (v := ?_) rfl (by kernel_rfl) (by kernel_rfl) (by kernel_rfl) (fun _ _ _ h => h) (Or.inl ⟨by rfl, ?_⟩) hS ?_
  rotate_left; · (intro w hSw; (try dsimp only at hSw); go_simp; try with_reducible rfl)
  try simp only [Act.put, List.setIfInBounds_toArray, List.set_cons_zero, List.set_cons_succ]
  refine Till.takeS 2 (v := ?_) rfl (by kernel_rfl) (by kernel_rfl) (by kernel_rfl) (fun _ _ _ h => h) (Or.inl ⟨by rfl, ?_⟩) hS ?_
  rotate_left; · (intro w hSw; (try dsimp only at hSw); go_simp; try with_reducible rfl)
  try simp only [Act.put, List.setIfInBounds_toArray, List.set_cons_zero, List.set_cons_succ]
  refine Till.takeS 3 (v := ?_) rfl (by kernel_rfl) (by kernel_rfl) (by kernel_rfl) (fun _ _ _ h => h) (Or.inl ⟨by rfl, ?_⟩) hS ?_
  rotate_left; · (intro w hSw; (try dsimp only at hSw); go_simp; try with_reducible rfl)
  try simp only [Act.put, List.setIfInBounds_toArray, List.set_cons_zero, List.set_cons_succ]
  refine Till.takeS 4 (v := ?_) rfl (by kernel_rfl) (by kernel_rfl) (by kernel_rfl) (fun _ _ _ h => h) (Or.inl ⟨by rfl, ?_⟩) hS ?_
  rotate_left; · (intro w hSw; (try dsimp only at hSw); go_simp; try with_reducible rfl)
  try simp only [Act.put, List.setIfInBounds_toArray, List.set_cons_zero, List.set_cons_succ]
  refine Till.takeS 5 (v := ?_) rfl (by kernel_rfl) (by kernel_rfl) (by kernel_rfl) (fun _ _ _ h => h) (Or.inl ⟨by rfl, ?_⟩) hS ?_
  rotate_left; · (intro w hSw; (try dsimp only at hSw); go_simp; try with_reducible rfl)
  try simp only [Act.put, List.setIfInBounds_toArray, List.set_cons_zero, List.set_cons_succ]
  refine Till.takeS 6 (v := ?_) rfl (by kernel_rfl) (by kernel_rfl) (by kernel_rfl) (fun _ _ _ h => h) (Or.inl ⟨by rfl, ?_⟩) hS ?_
  rotate_left; · (intro w hSw; (try dsimp only at hSw); go_simp; try with_reducible rfl)
  try simp only [Act.put, List.setIfInBounds_toArray, List.set_cons_zero, List.set_cons_succ]
  refine Till.one 7 (by kernel_rfl) rfl (fun K hK => ?_)
  go_simp
  go_at_call 43
  (with_reducible refine (CU.out _ (below_drew (Below.refl _ _))).mono ?_)
  rintro e w2 ⟨rfl, hb⟩
  have B2 := Aside0.mk hb
  have hS2 : (fun w' => w'.cell? ⟨blk, 0, none⟩ = some (.int .i64 t0)) w2 := pw_cell_below B2.out hS
  refine hK.out _ _ hS2 (fun _ _ => trivial) ?_
  clear hK K hb hS
  have hS := hS2
  clear hS2
  try simp only [Act.put, List.setIfInBounds_toArray, List.set_cons_zero, List.set_cons_succ]
  refine Till.takeS 8 (v := ?_) rfl (by kernel_rfl) (by kernel_rfl) (by kernel_rfl) (fun _ _ _ h => h) (Or.inl ⟨by rfl, ?_⟩) hS ?_
  rotate_left; · (intro w hSw; (try dsimp only at hSw); go_simp; try with_reducible rfl)
  try simp only [Act.put, List.setIfInBounds_toArray, List.set_cons_zero, List.set_cons_succ]
  refine Till.takeS 9 (v := ?_) rfl (by kernel_rfl) (by kernel_rfl) (by kernel_rfl) (fun _ _ _ h => h) (Or.inl ⟨by rfl, ?_⟩) hS ?_
  rotate_left; · (intro w hSw; (try dsimp only at hSw); go_simp; try with_reducible rfl)
  try simp only [Act.put, List.setIfInBounds_toArray, List.set_cons_zero, List.set_cons_succ]
  refine Till.done (by kernel_rfl) ?_
  go_wp2
  go_ret3
  exact ⟨by simp [htm] <;> omega, below_then (below_drew (Below.refl _ _)) (Nat.le_refl _) B2.out⟩
set_option maxHeartbeats 2000000 in
/-- No message waits: the time that is asked for. -/
theorem next_none (A : Option Addr) (c : Nat) (ask time bound : Int) (w : World) (hbd : ask < bound) :
    Calls Tryz.prog 44 #[.int .i64 ask, .int .i64 time, .int .i64 bound, .slice A 0 c] w fun e w' => e = .returned (.tuple #[.bool true, .int .i64 ask, .int .i64 0]) ∧ w' = w := by
  have hbd1 : ¬ bound ≤ ask := by omega
  go_enter Tryz.func44, Tryz.ntmps44
  go_wp2
  go_ret3
  exact ⟨rfl, rfl⟩
set_option maxHeartbeats 2000000 in
theorem decide_yes (blk c : Nat) (ts : List Int) (t0 ask time bound : Int) (w : World) (hc : ∀ i, i < ts.length → w.cell? ⟨blk, i, none⟩ = some (.int .i64 (ts.getD i 0))) (hb : blk < w.heap.size) (hl : ts.length ≤ 1000) (hs : Asc ts) (hp : 0 < ts.length) (ht : ts.getD 0 0 = t0)
    (ha : t0 ≤ ask) (hbd : t0 < bound) (htm : time ≤ t0) (hn : 0 < upto ts t0) :
    Calls Tryz.prog 23 #[.int .i64 2, .int .i64 ask, .int .i64 time, .int .i64 bound, .slice (some ⟨blk, 0, none⟩) ts.length c] w fun e w' => e = .returned (.tuple #[.bool true, .int .i64 t0, .int .i64 (upto ts t0 : Nat)]) ∧ Below w.heap.size w w' := by
  have CN := Aside0.mk (next_yes blk c ts t0 ask time bound w hc hb hl hs hp ht ha hbd htm hn)
  clear hc hs hn hp ht hl hb
  generalize upto ts t0 = r at CN ⊢
  go_enter Tryz.func23, Tryz.ntmps23
  go_wp2_with (go_at_call 44; (with_reducible refine CN.out.mono ?_); rintro e w' ⟨rfl, hb⟩; have B2 := Aside0.mk hb; clear hb)
  go_ret3
  exact ⟨rfl, B2.out⟩
set_option maxHeartbeats 2000000 in
theorem decide_none (A : Option Addr) (c : Nat) (ask time bound : Int) (w : World) (hbd : ask < bound) :
    Calls Tryz.prog 23 #[.int .i64 2, .int .i64 ask, .int .i64 time, .int .i64 bound, .slice A 0 c] w fun e w' => e = .returned (.tuple #[.bool true, .int .i64 ask, .int .i64 0]) ∧ w' = w := by
  have CN := Aside0.mk (next_none A c ask time bound w hbd)
  go_enter Tryz.func23, Tryz.ntmps23
  go_wp2_with (go_at_call 44; (with_reducible refine CN.out.mono ?_); rintro e w' ⟨rfl, rfl⟩)
  go_ret3
  exact ⟨rfl, rfl⟩
end Go.Proofs.YtaaaocckfnlgdaaGreatDoorT
