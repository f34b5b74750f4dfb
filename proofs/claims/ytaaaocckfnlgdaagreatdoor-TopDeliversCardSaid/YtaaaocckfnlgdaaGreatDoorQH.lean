import Derived.Test.YtaaaocckfnlgdaaGreatDoorQG
/- A message is sent to the second one. -/
namespace Go.Proofs.YtaaaocckfnlgdaaGreatDoorT
open Go.RowKit Go.Proofs.YtaaaocckfnlgdaaGreatDoorW.PrintWords Go.Proofs.YtaaaocckfnlgdaaGreatDoorW.PrintLast Go.Proofs.YtaaaocckfnlgdaaGreatDoorW.PrintMore Go.Proofs.YtaaaocckfnlgdaaGreatDoor.PBase Go.Proofs.YtaaaocckfnlgdaaGreatDoorH
set_option maxRecDepth 100000
set_option linter.unusedVariables false
set_option linter.unusedSimpArgs false
/-- 4 checks that hold, laid in a new block. -/
theorem all4n (f e0 e1 e2 e3 : Int) (w : World) :
    Calls Tryz.prog 20 #[.int .i64 f, .slice (some ⟨w.heap.size, 0, none⟩) 4 4] (w.alloc (.cells #[.bool true, .int .i64 e0, .bool true, .int .i64 e1, .bool true, .int .i64 e2, .bool true, .int .i64 e3] 63 (0, 0))) fun e w' => e = .returned .nilIface ∧ Below w.heap.size w w' := by
  have B := blk_new w (.cells #[.bool true, .int .i64 e0, .bool true, .int .i64 e1, .bool true, .int .i64 e2, .bool true, .int .i64 e3] 63 (0, 0))
  refine (all_calls f w.heap.size 4 4 (by omega) (w.alloc (.cells #[.bool true, .int .i64 e0, .bool true, .int .i64 e1, .bool true, .int .i64 e2, .bool true, .int .i64 e3] 63 (0, 0))) (fun i hi => ?_)).mono (fun e w' h => ⟨h.1, below_step (below_alloc (Below.refl _ w) _) h.2⟩)
  have hc : ∀ (k : Nat) (v : Value), (#[.bool true, .int .i64 e0, .bool true, .int .i64 e1, .bool true, .int .i64 e2, .bool true, .int .i64 e3] : Array Value)[k]? = some v → (w.alloc (.cells #[.bool true, .int .i64 e0, .bool true, .int .i64 e1, .bool true, .int .i64 e2, .bool true, .int .i64 e3] 63 (0, 0))).cell? ⟨w.heap.size, k, none⟩ = some v := fun k v hv => (blk_cell B k).trans hv
  match i, hi with
  | 0, _ => exact ⟨e0, hc 0 _ rfl, hc 1 _ rfl⟩
  | 1, _ => exact ⟨e1, hc 2 _ rfl, hc 3 _ rfl⟩
  | 2, _ => exact ⟨e2, hc 4 _ rfl, hc 5 _ rfl⟩
  | 3, _ => exact ⟨e3, hc 6 _ rfl, hc 7 _ rfl⟩
theorem i64_at {w : World} {gb n : Nat} {xs : List Int} (h : Kd.C (Kd.int .i64) w (some ⟨gb, 0, none⟩) n xs) {k : Nat} (hk : k < n) : w.cell? ⟨gb, k, none⟩ = some (.int .i64 (xs.getD k 0)) := by
  obtain ⟨ad, c, e, _, hK, hc⟩ := Kd.C_get h (0 : Int) (k : Int) (by omega) (by omega)
  obtain rfl := Option.some.inj e
  obtain rfl := hK
  have h0 : w.cell? (Addr.add ⟨gb, 0, none⟩ ((k : Int).toNat * 1 + 0)) = some (.int .i64 (xs.getD (k : Int).toNat 0)) := hc 0 _ rfl
  rw [Int.toNat_natCast, Nat.mul_one, Nat.add_zero] at h0
  unfold Addr.add at h0
  split at h0
  · rename_i hk0
    rw [hk0] at h0 ⊢
    exact h0
  · rw [Nat.zero_add] at h0
    exact h0
/-- What may turn as a message is sent. -/
def Zs (d : Ad) (v : Value) (k : Nat) : Prop := k = d.g ∨ Zq (d.q 1) (d.r 1) v k
set_option maxHeartbeats 8000000 in
theorem send0_calls {v : Value} {l : List Mg} {K : Mg → Prop} {w : World} {d : Ad} {ps ss : List Int} {m : Nat → TM} (H : Rq v l K w d ps ss m) (h0 : (m 0).is = true) (hk : (m 0).kind = 0) (ht0 : (m 0).time = 0) (hlk : 1 ≤ (m 0).look ∧ (m 0).look ≤ 1000) (h1 : (m 1).con = true)
    (n : Int) (hn : (m 0).sent = n ∧ 0 ≤ n ∧ n < 1000) (t : Int) (ht : (m 0).look ≤ t ∧ t ≤ 1000000) (hab : 0 < d.ab.length) (hp : pubsB d.ab.length ps 0 0 = true) (hr : routeL d.ab ss 0 0 = [1]) (hl : l.length < 64) (hh : HeapN l l.length) (hK : ∀ y, K y → y ≠ (t, n)) :
    Calls Tryz.prog 11 #[.pointer (some ⟨d.g, 0, none⟩), .int .i64 0, .int .i64 0, .int .i64 n, .int .i64 t, .bool true] w fun e w' => e = .returned (.tuple #[.int .i64 n, .int .i64 0]) ∧ ∃ v' l', Rq v' l' (fun y => K y ∨ y = (t, n)) w' d ps ss (mset m 0 { m 0 with sent := n + 1 }) ∧ l'.Perm (l ++ [(t, n)]) ∧ HeapN l' l'.length ∧ But (Zs d v) w w' ∧ (v'.ownBlock = v.ownBlock ∨ ∃ k, v'.ownBlock = some k ∧ w.heap.size ≤ k) := by
  have HH := Aside0.mk H
  have CB := Aside0.mk (qby0 H h0)
  have CR := Aside0.mk (show ∀ W, Rq v l K W d ps ss m → Calls Tryz.prog 25 #[.pointer (some ⟨d.bt, 0, none⟩), .int .i64 0, .int .i64 0] W fun e w' => ∃ vr : Value, e = .returned (.tuple #[vr, .int .i64 0]) ∧ Kd.R (Kd.int .i64) 3 w' W.heap.size (fun _ => True) vr [1] ∧ Below W.heap.size W w' from fun W hW => by
    have h := route_calls_ok hW.tab 0 0 (by omega) hab hp
    rw [show routeL d.ab ss ((0 : Nat) : Int) ((0 : Nat) : Int) = [1] from hr] at h
    exact h)
  have HN := Aside0.mk (And.intro hn (And.intro ht (And.intro hl (And.intro hh (And.intro hK (And.intro hk (And.intro ht0 (And.intro hlk h1))))))))
  clear H h0 hk ht0 h1 hn hab hp hr hh hK
  go_enter Tryz.func11, Tryz.ntmps11
  go_upto_region 4 with (go_at_call 18; (with_reducible refine CB.out.mono ?_); rintro e w1 ⟨rfl, hb⟩; have B1 := Aside0.mk hb; have R1 := Aside0.mk (HH.out.below hb); clear hb)
  have z1 := R1.out.tabp
  go_upto_region 7 with (go_at_call 25; (with_reducible refine (CR.out _ R1.out).mono ?_); rintro e w2 ⟨vr, rfl, ho, hb⟩; have O2 := Aside0.mk ho; have B2 := Aside0.mk (below_step B1.out hb); have R2 := Aside0.mk (R1.out.below hb); clear ho hb z1)
  obtain ⟨gr, cr, er, hg1, hg2, -⟩ := Kd.R_form O2.out (by decide)
  have CE := Aside0.mk (i64_at (Kd.R_reads' (er ▸ O2.out)).2.2 (k := 0) (by decide))
  rw [show ([1] : List Int).length = 1 from rfl] at er
  subst er
  have GR := Aside0.mk (show gr < w2.heap.size ∧ w1.heap.size ≤ gr from ⟨hg2, hg1⟩)
  clear O2 hg1 hg2
  have CL := Aside0.mk (qlen_calls R2.out.qu)
  have E0 : w2.cell? ⟨gr, 0, none⟩ = some (.int .i64 1) := CE.out
  have z2 := R2.out.look0
  have z3 := (R2.out.con1).trans (congrArg (fun x => some (Value.bool x)) HN.out.2.2.2.2.2.2.2.2)
  have z4 := R2.out.q1
  have hlp : 0 < (m 0).look := by omega
  have hl64 : ¬ (64 : Int) ≤ (l.length : Int) := by omega
  go_upto_region 11 with (fail)
  go_loopw [63, 19] (fun v63 v19 wr => ∃ i : Nat, i ≤ 1 ∧ v63 = .int .i64 i ∧ v19 = .bool false ∧ wr = w2) (fun i _ _ => 1 - (intOf i).toNat)
  case atStart => exact ⟨0, by omega, rfl, rfl, rfl⟩
  case round =>
    obtain ⟨i, hi, rfl, rfl, rfl⟩ := hrel
    match i, hi with
    | 0, _ =>
      go_wp2_with (go_at_call 26; (with_reducible refine CL.out.mono ?_); rintro e w3 ⟨rfl, rfl⟩)
      go_roundw
      case rel => exact ⟨1, by omega, by simp; omega⟩
      case measure => simp [intOf]
    | 1, _ =>
      go_upto_region 18 with (fail)
      have hb0 : basis (m 0) = 0 := by
        unfold basis
        rw [if_neg (by rw [HN.out.2.2.2.2.2.1]; decide)]
        exact HN.out.2.2.2.2.2.2.1
      obtain ⟨rr, hf, hrl, hr0, -⟩ := sysq m (frs l) (Or.inl HN.out.2.2.2.2.2.1) hlk.1 (by omega) (by rw [hb0]; decide) (by rw [hb0]; decide)
      rw [hb0, Int.zero_add] at hr0
      have CM := Aside0.mk (membersq_calls R2.out)
      have CO := Aside0.mk (show ∀ A c W, Kd.C k108 W A (memLq m (frs l) 8).length (memLq m (frs l) 8) → (memLq m (frs l) 8).length ≤ c → Calls Tryz.prog 27 #[.slice A (memLq m (frs l) 8).length c] W fun e w' => ∃ go co, e = .returned (.slice (some ⟨go, 0, none⟩) 8 co) ∧ w'.cell? ⟨go, 0, none⟩ = some (.int .i64 (m 0).look) ∧ Below W.heap.size W w' from fun A c W h1 h2 => (lbts_Outputs.calls A c (memLq m (frs l) 8) rr W h1 h2 hf).mono fun e w' ⟨vo, he, ho, hb⟩ => by
        obtain ⟨go, co, eo, -, -, -⟩ := Kd.R_form ho (by rw [hrl]; decide)
        have h := i64_at (Kd.R_reads' (eo ▸ ho)).2.2 (k := 0) (by rw [hrl]; decide)
        rw [hr0] at h
        rw [hrl] at eo
        exact ⟨go, co, by rw [he, eo], h, hb⟩)
      clear hf hrl hr0 hb0 E0 z2 z3 z4 hlp
      have hn0 := HN.out.1.2.1
      have hn1 := HN.out.1.2.2
      have ht1 : 0 ≤ t := by omega
      have ht2 : t ≤ 1099511627776 := by omega
      have ht3 := ht.1
      go_upto_region 19 with (first
        | (go_at_call 28; (with_reducible refine CM.out.mono ?_); rintro e w3 ⟨u, rfl, ho, hb⟩; obtain ⟨A3, c3, rfl⟩ := Kd.R_slice ho; have O3 := Aside0.mk (Kd.R_reads' ho); have B3 := Aside0.mk hb; clear ho hb)
        | (go_at_call 27; (with_reducible refine (CO.out _ _ _ O3.out.2.2 O3.out.2.1).mono ?_); rintro e w4 ⟨go, co, rfl, E4, hb⟩; have B4 := Aside0.mk (below_step B3.out hb); clear hb)
        | (go_at_call 20; (with_reducible refine (all4n _ _ _ _ _ _).mono ?_); rintro e w5 ⟨rfl, hb⟩; have B5 := Aside0.mk (below_step B4.out hb); clear hb))
      have R5 := Aside0.mk (R2.out.below B5.out)
      have W5 := Aside0.mk (below_step B2.out B5.out)
      have zs : w5.cell? ⟨d.g, 8, none⟩ = some (.int .i64 n) := (R5.out.sent0).trans (congrArg (fun x => some (Value.int .i64 x)) HN.out.1.1)
      have G5 := Aside0.mk (show w5.cell? ⟨gr, 0, none⟩ = some (.int .i64 1) from pw_cell_below B5.out CE.out)
      clear B1 B2 B3 B4 B5 R1 R2 O3 E4 CM CO CB CR CL GR CE HH
      go_upto_region 24 with (fail)
      have M6 := Aside0.mk (blk_new w5 (.cells #[.int .i64 t, .int .i64 0, .int .i64 n, .int .i64 0, .int .i64 0, .int .i64 n] 41 (0, 0)))
      have B6 := Aside0.mk (show Below w5.heap.size w5 (w5.alloc (.cells #[.int .i64 t, .int .i64 0, .int .i64 n, .int .i64 0, .int .i64 0, .int .i64 n] 41 (0, 0))) from below_alloc (Below.refl _ _) _)
      clear zs
      generalize (w5.alloc (.cells #[.int .i64 t, .int .i64 0, .int .i64 n, .int .i64 0, .int .i64 0, .int .i64 n] 41 (0, 0))) = w6 at M6 B6 ⊢
      generalize hgm : w5.heap.size = gm at M6 ⊢
      have HM := Aside0.mk hgm
      clear hgm
      go_upto_region 25 with (fail)
      go_loopw [153] (fun v153 wr => ∃ i : Nat, i ≤ 1 ∧ v153 = .int .i64 i ∧ Aside0 (i = 0 → wr = w6) ∧ Aside0 (i = 1 → (∃ v' l', Rq v' l' (fun y => K y ∨ y = (t, n)) wr d ps ss m ∧ l'.Perm (l ++ [(t, n)]) ∧ HeapN l' l'.length ∧ But (Zs d v) w wr ∧ (v'.ownBlock = v.ownBlock ∨ ∃ k, v'.ownBlock = some k ∧ w.heap.size ≤ k)) ∧ wr.cell? ⟨gm, 2, none⟩ = some (.int .i64 n) ∧ gm ≠ d.g)) (fun i _ => 1 - (intOf i).toNat)
      case atStart => exact ⟨0, by omega, rfl, ⟨fun _ => rfl⟩, ⟨fun h => absurd h (by decide)⟩⟩
      case round =>
        obtain ⟨j, hj, rfl, S0, S1⟩ := hrel
        match j, hj with
        | 0, _ =>
          obtain rfl := S0.out rfl
          have E6 : wr.cell? ⟨gr, 0, none⟩ = some (.int .i64 1) := pw_cell_below B6.out G5.out
          have m3 : wr.cell? ⟨gm, 3, none⟩ = some (.int .i64 0) := (blk_cell M6.out 3).trans rfl
          have f3 := blk_frozen M6.out 3
          go_upto_region 28 with (fail)
          have B7 := Aside0.mk (show Below w5.heap.size w5 (wr.setCell ⟨gm, 3, none⟩ (.int .i64 1)) from B6.out.setCell (p := ⟨gm, 3, none⟩) (Nat.le_of_eq HM.out) _)
          have M7 := Aside0.mk (show (wr.setCell ⟨gm, 3, none⟩ (.int .i64 1)).heap[gm]? = some (.cells #[.int .i64 t, .int .i64 0, .int .i64 n, .int .i64 1, .int .i64 0, .int .i64 n] 41 (0, 0)) from blk_put M6.out 3 _ rfl)
          clear E6 m3 f3 S0 S1 B6 M6
          generalize wr.setCell ⟨gm, 3, none⟩ (.int .i64 1) = W7 at B7 M7 ⊢
          have R7 := Aside0.mk (R5.out.below B7.out)
          have zc := (R7.out.con1).trans (congrArg (fun x => some (Value.bool x)) HN.out.2.2.2.2.2.2.2.2)
          go_upto_region 30 with (fail)
          clear zc
          have zq := R7.out.q1
          have m0 : W7.cell? ⟨gm, 0, none⟩ = some (.int .i64 t) := (blk_cell M7.out 0).trans rfl
          have m1 : W7.cell? ⟨gm, 1, none⟩ = some (.int .i64 0) := (blk_cell M7.out 1).trans rfl
          have m2 : W7.cell? ⟨gm, 2, none⟩ = some (.int .i64 n) := (blk_cell M7.out 2).trans rfl
          have m3 : W7.cell? ⟨gm, 3, none⟩ = some (.int .i64 1) := (blk_cell M7.out 3).trans rfl
          have m4 : W7.cell? ⟨gm, 4, none⟩ = some (.int .i64 0) := (blk_cell M7.out 4).trans rfl
          have m5 : W7.cell? ⟨gm, 5, none⟩ = some (.int .i64 n) := (blk_cell M7.out 5).trans rfl
          refine wp_region_still_tail 5 (by kernel_rfl) (by kernel_rfl) ?_
          simp only [List.take_succ_cons, List.take_zero, List.drop_succ_cons, List.drop_zero]
          iterate 5 still_step
          refine wpStill_nil ?_
          have R8 := Aside0.mk R7.out.drew
          have B8 := Aside0.mk (below_step W5.out (below_drew B7.out))
          have M8 := Aside0.mk (blk_drew M7.out)
          have G8 := Aside0.mk (show gm ≠ d.g ∧ gm ≠ d.q 1 ∧ gm ≠ d.r 1 ∧ some gm ≠ v.ownBlock from by
            have h1 := blk_lt R5.out.blk
            have h2 := blk_lt R5.out.qu.blk
            obtain ⟨es, cc, h, _⟩ := R5.out.qu.map
            have h3 := blk_lt h
            have h4 := HM.out
            exact ⟨by omega, by omega, by omega, fun e => by have := Kd.R_lt R5.out.qu.row _ e.symm; omega⟩)
          clear zq m0 m1 m2 m3 m4 m5 R7 B7 M7
          change wpList _ _ _ _ _ W7.drew
          generalize W7.drew = W8 at R8 B8 M8 ⊢
          have cp := qpush_calls R8.out.qu R8.out.bs HN.out.2.2.1 HN.out.2.2.2.1 (t, n) HN.out.2.2.2.2.1
          unfold mvv at cp
          have CP := Aside0.mk cp
          clear cp
          go_wp2_with (go_at_call 29; (with_reducible refine CP.out.mono ?_); rintro e w9 ⟨rfl, v9, l9, hq, hp, hh, hb, hv⟩; have Q9 := Aside0.mk hq; have P9 := Aside0.mk hp; have E9 := Aside0.mk hh; have B9 := Aside0.mk hb; have V9 := Aside0.mk hv; clear hq hp hh hb hv)
          go_roundw
          case rel => exact ⟨1, by omega, by first | rfl | go_num, ⟨fun h => absurd h (by decide)⟩, ⟨fun _ => ⟨⟨v9, l9, R8.out.queue Q9.out B9.out V9.out, P9.out, E9.out, ((But.of_below (S := Zs d v) B8.out).trans (B9.out.mono (fun k hk => Or.inr hk))), V9.out.imp id (fun ⟨k, h1, h2⟩ => ⟨k, h1, Nat.le_trans B8.out.size h2⟩)⟩, (blk_cell (B9.out.blk M8.out (fun h => h.elim G8.out.2.1 (fun h => h.elim G8.out.2.2.1 G8.out.2.2.2))) 2).trans rfl, G8.out.1⟩⟩⟩
          case measure => simp [intOf]
        | 1, _ =>
          obtain ⟨⟨v9, l9, hq, hp, hh, hb, hv⟩, hm, hgd⟩ := S1.out rfl
          have Q9 := Aside0.mk hq
          have P9 := Aside0.mk (And.intro hp (And.intro hh (And.intro hb hv)))
          have zs : wr.cell? ⟨d.g, 8, none⟩ = some (.int .i64 n) := (hq.sent0).trans (congrArg (fun x => some (Value.int .i64 x)) HN.out.1.1)
          have fz := hq.fz 8
          have GD := Aside0.mk hgd
          clear hq hp hh hb hv S0 S1 hgd
          have zm : (wr.setCell ⟨d.g, 8, none⟩ (.int .i64 (n + 1))).cell? ⟨gm, 2, none⟩ = some (.int .i64 n) := (But.set (S := fun k => k = d.g) (But.refl _ wr) (p := ⟨d.g, 8, none⟩) rfl (.int .i64 (n + 1))).cell hm GD.out
          go_wp2
          go_ret2
          exact ⟨rfl, v9, l9, Q9.out.set 8 _ rfl, P9.out.1, P9.out.2.1, P9.out.2.2.1.set (Or.inl rfl) _, P9.out.2.2.2⟩
end Go.Proofs.YtaaaocckfnlgdaaGreatDoorT
/- The second one looks, having asked for its next message. -/
namespace Go.Proofs.YtaaaocckfnlgdaaGreatDoorT
open Go.RowKit Go.Proofs.YtaaaocckfnlgdaaGreatDoorW.PrintWords Go.Proofs.YtaaaocckfnlgdaaGreatDoorW.PrintLast Go.Proofs.YtaaaocckfnlgdaaGreatDoorW.PrintMore Go.Proofs.YtaaaocckfnlgdaaGreatDoor.PBase Go.Proofs.YtaaaocckfnlgdaaGreatDoorH
set_option maxRecDepth 100000
set_option linter.unusedVariables false
set_option linter.unusedSimpArgs false
/-! ### plain -/
theorem upto_count (ts : List Int) (x : Int) : upto ts x = ts.countP (fun y => decide (y ≤ x)) := by
  unfold upto
  have e : ts = (List.range ts.length).map (fun i => ts.getD i 0) := by
    apply List.ext_getElem
    · simp
    · intro i h1 h2
      simp [List.getD_eq_getElem?_getD, h1]
  conv => rhs; rw [e]
  rw [List.countP_map]
  congr 1
  funext i
  by_cases h : x < ts.getD i 0
  · simp only [Function.comp, h, decide_true, Bool.not_true]
    exact (decide_eq_false (by omega)).symm
  · simp only [Function.comp, h, decide_false, Bool.not_false]
    exact (decide_eq_true (by omega)).symm
/-- The time of the next message, and how many have it. -/
def nT (l : List Mg) (ask : Int) : Int := if l = [] then ask else tt l 0
def nN (l : List Mg) : Nat := if l = [] then 0 else l.countP (fun y => decide (y.1 ≤ tt l 0))
theorem nN_le (l : List Mg) : nN l ≤ l.length := by
  unfold nN
  split
  · exact Nat.zero_le _
  · exact List.countP_le_length
theorem tt_mem {l : List Mg} {x : Mg} (h : x ∈ l) : ∃ i, i < l.length ∧ tt l i = x.1 := by
  obtain ⟨i, hi, e⟩ := List.getElem_of_mem h
  exact ⟨i, hi, by unfold tt; rw [g_lt hi, e]⟩
/-- Having taken j of them: the next one has that time, too. -/
theorem next_same {l L l' : List Mg} (hh : HeapN l l.length) (hp : (L ++ l').Perm l) (hL : ∀ x ∈ L, x.1 = nT l 0) (hlt : L.length < nN l) (hh' : HeapN l' l'.length) : l' ≠ [] ∧ (g l' 0).1 = nT l 0 := by
  have hne : l ≠ [] := fun e => by
    unfold nN at hlt
    rw [if_pos e] at hlt
    omega
  have eT : nT l 0 = tt l 0 := if_neg hne
  have eN : nN l = l.countP (fun y => decide (y.1 ≤ tt l 0)) := if_neg hne
  have h1 : (L ++ l').countP (fun y => decide (y.1 ≤ tt l 0)) = nN l := by rw [eN]; exact hp.countP_eq _
  rw [List.countP_append] at h1
  have h2 := List.countP_le_length (p := fun y : Mg => decide (y.1 ≤ tt l 0)) (l := L)
  have h3 : 0 < l'.countP (fun y => decide (y.1 ≤ tt l 0)) := by omega
  obtain ⟨y, hy, hle⟩ := List.countP_pos_iff.1 h3
  have hle' : y.1 ≤ tt l 0 := by simpa using hle
  have hne' : l' ≠ [] := fun e => by rw [e] at hy; cases hy
  have hpos : 0 < l'.length := List.length_pos_iff.2 hne'
  refine ⟨hne', ?_⟩
  obtain ⟨i, hi, ei⟩ := tt_mem hy
  have h4 := heap_min hh' i hi
  have hm : g l' 0 ∈ l := hp.mem_iff.1 (List.mem_append_right _ (by rw [g_lt hpos]; exact List.getElem_mem hpos))
  obtain ⟨j, hj, ej⟩ := tt_mem hm
  have h5 := heap_min hh j hj
  have : tt l' 0 = (g l' 0).1 := rfl
  rw [eT]
  omega
theorem nN_pos {l : List Mg} (h : l ≠ []) : 0 < nN l := by
  unfold nN
  rw [if_neg h]
  have hpos : 0 < l.length := List.length_pos_iff.2 h
  exact List.countP_pos_iff.2 ⟨g l 0, by rw [g_lt hpos]; exact List.getElem_mem hpos, by simp [tt]⟩
/-- The first of the times in order is the heap's first. -/
theorem first_time {l ls : List Mg} (hh : HeapN l l.length) (hp : ls.Perm l) (ha : Asc (ls.map (·.1))) (hne : l ≠ []) : (ls.map (·.1)).getD 0 0 = tt l 0 ∧ upto (ls.map (·.1)) (tt l 0) = nN l := by
  constructor
  · have hpos : 0 < l.length := List.length_pos_iff.2 hne
    cases ls with
    | nil => exact absurd hp.symm.eq_nil hne
    | cons x r =>
      show x.1 = tt l 0
      have hx : x ∈ l := hp.mem_iff.1 List.mem_cons_self
      obtain ⟨j, hj, ej⟩ := tt_mem hx
      have h5 := heap_min hh j hj
      have h0 : g l 0 ∈ x :: r := hp.mem_iff.2 (by rw [g_lt hpos]; exact List.getElem_mem hpos)
      rcases List.mem_cons.1 h0 with e | h0
      · unfold tt; rw [e]
      · have h7 : x.1 ≤ (g l 0).1 := (List.pairwise_cons.1 ha).1 _ (List.mem_map_of_mem h0)
        have h8 : tt l 0 = (g l 0).1 := rfl
        omega
  · rw [upto_count, List.countP_map]
    unfold nN
    rw [if_neg hne]
    exact hp.countP_eq _
/-! ### the walk -/
/-- All that is the federation's lies below B. -/
def Lo (d : Ad) (v : Value) (B : Nat) : Prop := d.g < B ∧ d.bt < B ∧ d.ta < B ∧ (∀ i, i < 8 → d.q i < B) ∧ d.r 1 < B ∧ ∀ k, v.ownBlock = some k → k < B
section
variable {v : Value} {l : List Mg} {K : Mg → Prop} {w : World} {d : Ad} {ps ss : List Int} {m : Nat → TM} {B : Nat}
theorem Rq.lo (H : Rq v l K w d ps ss m) : Lo d v w.heap.size := by
  refine ⟨blk_lt H.blk, blk_lt H.tab.blk, H.tl, fun i hi => ?_, ?_, Kd.R_lt H.qu.row⟩
  · by_cases e : i = 1
    · rw [e]; exact blk_lt H.qu.blk
    · exact blk_lt (H.que i hi e)
  · obtain ⟨es, c, h, _⟩ := H.qu.map
    exact blk_lt h
theorem Rq.keep {w' : World} (H : Rq v l K w d ps ss m) (L : Lo d v B) (h : Below B w w') : Rq v l K w' d ps ss m :=
  have hb : But (fun k => B ≤ k) w w' := ⟨h.os, h.tape, h.output, h.size, fun i hi hn => h.block i (by omega)⟩
  { H with
    blk := hb.blk H.blk (by have := L.1; omega)
    tab := H.tab.but hb (by have := L.2.1; omega) (by have := L.2.2.1; omega)
    que := fun i hi hn => hb.blk (H.que i hi hn) (by have := L.2.2.2.1 i hi; omega)
    qu := H.qu.but hb (by have := L.2.2.2.1 1 (by omega); omega) (by have := L.2.2.2.2.1; omega) (fun k hk => by have := L.2.2.2.2.2 k hk; omega)
    bs := Nat.le_trans H.bs h.size
    tl := Nat.lt_of_lt_of_le H.tl h.size }
theorem Rq.far (H : Rq v l K w d ps ss m) (L : Lo d v B) {g0 : Nat} (hg : B ≤ g0) (k : Nat) (x : Value) : Rq v l K (w.setCell ⟨g0, k, none⟩ x) d ps ss m :=
  H.keep L ((Below.refl B w).setCell (p := ⟨g0, k, none⟩) hg x)
theorem But.thenB {S : Nat → Prop} {w0 a b : World} (h : But S w0 a) (k : Below w0.heap.size a b) : But S w0 b :=
  ⟨k.os.trans h.os, k.tape.trans h.tape, k.output.trans h.output, Nat.le_trans h.size k.size, fun i hi hn => (k.block i hi).trans (h.block i hi hn)⟩
theorem Lo.own {d : Ad} {v v' : Value} {B : Nat} (h : Lo d v B) (e : v'.ownBlock = v.ownBlock) : Lo d v' B := ⟨h.1, h.2.1, h.2.2.1, h.2.2.2.1, h.2.2.2.2.1, fun k hk => h.2.2.2.2.2 k (e ▸ hk)⟩
theorem But.newer {S : Nat → Prop} {w0 w : World} (h : But S w0 w) {g0 : Nat} (hg : w0.heap.size ≤ g0) (k : Nat) (x : Value) : But S w0 (w.setCell ⟨g0, k, none⟩ x) :=
  ⟨h.os, h.tape, h.output, by simpa [World.setCell] using h.size, fun i hi hn => (Below.heap_setCell w ⟨g0, k, none⟩ x i (by show i ≠ g0; omega)).trans (h.block i hi hn)⟩
end
theorem msg_at {W : World} {A : Option Addr} {n : Nat} {ls : List Mg} (h : Kd.C kM W A n ls) {k : Nat} (hk : k < n) : ∃ ad, A = some ad ∧ W.cell? (ad.add (k * 6)) = some (.int .i64 (g ls k).1) ∧ W.cell? ⟨(ad.add (k * 6)).block, (ad.add (k * 6)).off + 1, none⟩ = some (.int .i64 0) ∧ W.cell? ⟨(ad.add (k * 6)).block, (ad.add (k * 6)).off + 2, none⟩ = some (.int .i64 (g ls k).2) ∧ W.cell? ⟨(ad.add (k * 6)).block, (ad.add (k * 6)).off + 3, none⟩ = some (.int .i64 1) ∧ W.cell? ⟨(ad.add (k * 6)).block, (ad.add (k * 6)).off + 4, none⟩ = some (.int .i64 0) ∧ W.cell? ⟨(ad.add (k * 6)).block, (ad.add (k * 6)).off + 5, none⟩ = some (.int .i64 (g ls k).2) := by
  obtain ⟨ad, c, e, _, hK, hc0⟩ := Kd.C_get h ((0, 0) : Mg) (k : Int) (by omega) (by omega)
  obtain rfl := kM_open hK
  rw [Int.toNat_natCast] at hc0
  have hc : ∀ j u, (mv (g ls k))[j]? = some u → W.cell? (ad.add (k * 6 + j)) = some u := hc0
  exact ⟨ad, e, hc 0 _ rfl, by rw [← add_field _ _ 1 (by omega)]; exact hc 1 _ rfl, by rw [← add_field _ _ 2 (by omega)]; exact hc 2 _ rfl, by rw [← add_field _ _ 3 (by omega)]; exact hc 3 _ rfl, by rw [← add_field _ _ 4 (by omega)]; exact hc 4 _ rfl, by rw [← add_field _ _ 5 (by omega)]; exact hc 5 _ rfl⟩
/-- What holds as messages are taken. -/
structure Lk (w wr : World) (d : Ad) (ps ss : List Int) (m : Nat → TM) (K : Mg → Prop) (v : Value) (l : List Mg) (g8 : Nat) (v' : Value) (l' : List Mg) (vt : Value) (L : List Mg) : Prop where
  rq : Rq v' l' K wr d ps ss m
  m8 : wr.heap[g8]? = some (.cells #[.slice none 0 0, vt, .bool false, .int .i64 (m 1).time] 29 (0, 0))
  n0 : wr.heap[w.heap.size]? = some (.cells #[.slice none 0 0, .slice none 0 0, .bool false, .int .i64 0] 29 (0, 0))
  row : Kd.R kM 41 wr w.heap.size (fun _ => True) vt L
  perm : (L ++ l').Perm l
  same : ∀ x ∈ L, x.1 = nT l 0
  heap : HeapN l' l'.length
  but : But (Zs d v) w wr
  own : v'.ownBlock = v.ownBlock
def GivenQ (vt : Value) (t : Int) : Value := .tuple #[.agg #[.slice none 0 0, vt, .bool true, .int .i64 t], .int .i64 0]
/-- What the second one is given. -/
def LookP (v : Value) (l : List Mg) (K : Mg → Prop) (w : World) (d : Ad) (ps ss : List Int) (m : Nat → TM) (e : Ending) (w' : World) : Prop :=
  ∃ vt L v' l', e = .returned (GivenQ vt (nT l (m 1).ask)) ∧ Rq v' l' K w' d ps ss (mset m 1 { m 1 with time := nT l (m 1).ask, kind := 0, ask := 0 }) ∧ Kd.R kM 41 w' w.heap.size (fun _ => True) vt L ∧
      (L ++ l').Perm l ∧ (∀ x ∈ L, x.1 = nT l 0) ∧ L.length = nN l ∧ HeapN l' l'.length ∧ But (Zs d v) w w' ∧ v'.ownBlock = v.ownBlock
set_option maxHeartbeats 8000000 in
theorem lookq_calls {v : Value} {l : List Mg} {K : Mg → Prop} {w : World} {d : Ad} {ps ss : List Int} {m : Nat → TM} (H : Rq v l K w d ps ss m) (hi : (m 1).is = true) (hk : (m 1).kind = 2) (hc : (m 1).con = true) (b : Int) (hb : lbts_Lbts.f 9 (memLq m (frs l) 8) 1 = some b)
    (hh : HeapN l l.length) (hl : l.length ≤ 900) (hn : nT l (m 1).ask < b) (ha : nT l (m 1).ask ≤ (m 1).ask) (ht : (m 1).time ≤ nT l (m 1).ask) (hab : (m 1).time ≤ (m 1).ask) :
    Calls Tryz.prog 8 #[.pointer (some ⟨d.g, 0, none⟩), .int .i64 1] w (LookP v l K w d ps ss m) := by
  have H0 := Aside0.mk (H.below (below_alloc (Below.refl _ w) (.cells #[.slice none 0 0, .slice none 0 0, .bool false, .int .i64 0] 29 (0, 0))))
  have CB := Aside0.mk (qby1 H0.out hi)
  have HK := Aside0.mk (And.intro hk (And.intro hc (And.intro hb hn)))
  have HA := Aside0.mk (And.intro hh (And.intro hl (And.intro ha (And.intro ht hab))))
  have HL := Aside0.mk H.lo
  have N0 := Aside0.mk (blk_new w (.cells #[.slice none 0 0, .slice none 0 0, .bool false, .int .i64 0] 29 (0, 0)))
  clear H hi hk hc hb hn hh hl ha ht hab
  go_enter Tryz.func8, Tryz.ntmps8
  go_upto_region 5 with (go_at_call 18; (with_reducible refine CB.out.mono ?_); rintro e w1 ⟨rfl, hb⟩; have B1 := Aside0.mk (below_step (below_alloc (Below.refl _ w) _) hb); have N1 := Aside0.mk (blk_below N0.out hb); have R1 := Aside0.mk (H0.out.below hb); have z0 := R1.out.plain1; have z1 := R1.out.time1; clear hb)
  go_region_held3 (fun w' => w'.cell? ⟨d.g, 20, none⟩ = some (.slice none 0 0) ∧ w'.cell? ⟨d.g, 14, none⟩ = some (.int .i64 (m 1).time)) (go_keep) (fail)
  have R2 := Aside0.mk (show Rq v l K (w1.alloc (.cells #[.slice none 0 0, .slice none 0 0, .bool false, .int .i64 (m 1).time] 29 (0, 0))).drew d ps ss m from (R1.out.below (below_alloc (Below.refl _ w1) _)).drew)
  have N2 := Aside0.mk (show (w1.alloc (.cells #[.slice none 0 0, .slice none 0 0, .bool false, .int .i64 (m 1).time] 29 (0, 0))).drew.heap[w.heap.size]? = some (.cells #[.slice none 0 0, .slice none 0 0, .bool false, .int .i64 0] 29 (0, 0)) from blk_alloc N1.out _)
  have M2 := Aside0.mk (show (w1.alloc (.cells #[.slice none 0 0, .slice none 0 0, .bool false, .int .i64 (m 1).time] 29 (0, 0))).drew.heap[w1.heap.size]? = some (.cells #[.slice none 0 0, .slice none 0 0, .bool false, .int .i64 (m 1).time] 29 (0, 0)) from blk_new w1 _)
  have B2 := Aside0.mk (show Below w.heap.size w (w1.alloc (.cells #[.slice none 0 0, .slice none 0 0, .bool false, .int .i64 (m 1).time] 29 (0, 0))).drew from below_drew (below_alloc B1.out _))
  have NE := Aside0.mk (show d.g < w.heap.size ∧ w.heap.size < w1.heap.size from ⟨HL.out.1, blk_lt N1.out⟩)
  clear B1 N1 R1 N0 CB z0 z1 H0
  generalize (w1.alloc (.cells #[.slice none 0 0, .slice none 0 0, .bool false, .int .i64 (m 1).time] 29 (0, 0))).drew = W2 at R2 N2 M2 B2 ⊢
  generalize w1.heap.size = g8 at M2 NE ⊢
  have z2 := R2.out.plain1
  have zf := R2.out.fz 20
  go_upto_region 7 with (fail)
  have R3 := Aside0.mk (R2.out.set 20 (.slice none 0 0) (m' := m) rfl)
  have N3 := Aside0.mk (blk_far N2.out (p := ⟨d.g, 20, none⟩) (by have := NE.out; show w.heap.size ≠ d.g; omega) (.slice none 0 0))
  have M3 := Aside0.mk (blk_far M2.out (p := ⟨d.g, 20, none⟩) (by have := NE.out; show g8 ≠ d.g; omega) (.slice none 0 0))
  have B3 := Aside0.mk ((But.of_below B2.out).set (S := Zs d v) (p := ⟨d.g, 20, none⟩) (Or.inl rfl) (.slice none 0 0))
  clear R2 N2 M2 B2 z2 zf
  generalize (W2.setCell ⟨d.g, 20, none⟩ (.slice none 0 0)) = W3 at R3 N3 M3 B3 ⊢
  have y1 := (R3.out.kind1).trans (by rw [HK.out.1])
  have y2 := (R3.out.con1).trans (by rw [HK.out.2.1])
  go_upto_region 14 with (first | (go_at_call 21; (with_reducible refine (boundq_calls R3.out _ _ HK.out.2.2.1).mono ?_); rintro e w4 ⟨rfl, hb⟩; have R4 := Aside0.mk (R3.out.below hb); have N4 := Aside0.mk (blk_below N3.out hb); have M4 := Aside0.mk (blk_below M3.out hb); have B4 := Aside0.mk (B3.out.then_ hb); have y3 := R4.out.q1; clear hb y1 y2) | (go_at_call 22; (with_reducible refine (qlist_calls R4.out.qu HA.out.2.1).mono ?_); rintro e w5 ⟨A5, c5, ls, rfl, hC, hp, hs, hb⟩; have C5 := Aside0.mk hC; have P5 := Aside0.mk hp; have S5 := Aside0.mk hs; have E5 := Aside0.mk hb; clear hC hp hs hb))
  have R5 := Aside0.mk (R4.out.below E5.out)
  have N5 := Aside0.mk (blk_below N4.out E5.out)
  have M5 := Aside0.mk (blk_below M4.out E5.out)
  have B5 := Aside0.mk (B4.out.then_ E5.out)
  clear R3 N3 M3 B3 R4 N4 M4 B4 E5 y3
  have LL := Aside0.mk (show ls.length ≤ 900 from by have := P5.out.length_eq; have := HA.out.2.1; omega)
  go_loopw [10, 62] (fun v10 v62 wr => ∃ j : Nat, j ≤ ls.length ∧ v62 = .int .i64 j ∧ Aside0 (Kd.R (Kd.int .i64) 3 wr w5.heap.size (fun _ => True) v10 ((ls.take j).map (·.1))) ∧ Aside0 (Below w5.heap.size w5 wr)) (fun _ j _ => ls.length - (intOf j).toNat)
  case atStart => exact ⟨0, by omega, rfl, ⟨Kd.R_nil _ _ _ _ _⟩, ⟨Below.refl _ _⟩⟩
  case round =>
    obtain ⟨j, hj, rfl, RO, RB⟩ := hrel
    by_cases hlt : j < ls.length
    · have hlt1 : (j : Int) < (ls.length : Int) := by omega
      have hj900 : j ≤ 900 := by have := LL.out; omega
      obtain ⟨ad, rfl, c0, c1, c2, c3, c4, c5'⟩ := msg_at (Kd.C_below C5.out RB.out) hlt
      have SN := Aside0.mk (show (ls.take j).map (·.1) ++ [(g ls j).1] = (ls.take (j + 1)).map (·.1) from by
        rw [List.take_succ_eq_append_getElem hlt, List.map_append, g_lt hlt]
        rfl)
      have LJ := Aside0.mk (show ((ls.take j).map (·.1)).length = j from by rw [List.length_map, List.length_take]; omega)
      generalize g ls j = x at c0 c1 c2 c3 c4 c5' SN
      generalize (ls.take j).map (·.1) = xs at SN LJ RO
      obtain ⟨A10, c10, e10⟩ := Kd.R_slice RO.out
      rw [LJ.out] at e10
      subst e10
      go_upto_region 16 with (fail)
      have B6 := Aside0.mk (show Below w5.heap.size w5 (wr.alloc (.cells #[.int .i64 x.1, .int .i64 0, .int .i64 x.2, .int .i64 1, .int .i64 0, .int .i64 x.2] 41 (0, 0))) from below_alloc RB.out _)
      have O6 := Aside0.mk (Kd.R_alloc RO.out (.cells #[.int .i64 x.1, .int .i64 0, .int .i64 x.2, .int .i64 1, .int .i64 0, .int .i64 x.2] 41 (0, 0)))
      have V6 := (blk_cell (blk_new wr (.cells #[.int .i64 x.1, .int .i64 0, .int .i64 x.2, .int .i64 1, .int .i64 0, .int .i64 x.2] 41 (0, 0))) 0).trans rfl
      clear c0 c1 c2 c3 c4 c5' RO RB
      generalize (wr.alloc (.cells #[.int .i64 x.1, .int .i64 0, .int .i64 x.2, .int .i64 1, .int .i64 0, .int .i64 x.2] 41 (0, 0))) = w6 at B6 O6 V6 ⊢
      go_wp2_with ((with_reducible refine gate_builtin (b := .append) (xs := #[.tmp 66, .tmp 70]) rfl ?_); at_builtin; refine Kd.R_append (Kd.int .i64) (w0 := w5) w5.heap.size rfl (.tmp 66) (.tmp 70) 35 3 _ 8 rfl Tryz.underlying35 info_int rfl (by decide) (by omega) _ xs x.1 [.int .i64 x.1] (fun _ => True) (fun _ => False) rfl rfl rfl (fun _ h => h.elim) (fun _ _ => trivial) O6.out B6.out B6.out.size (by rw [LJ.out]; omega) ?_; intro v7 w7 ho hb hg hat; clear hg hat; have O7 := Aside0.mk ho; have B7 := Aside0.mk hb; clear ho hb)
      go_roundw
      case rel => exact ⟨j + 1, by omega, by go_num, ⟨by rw [← SN.out]; exact O7.out⟩, B7⟩
      case measure => simp [intOf]; omega
    · obtain rfl : j = ls.length := by omega
      have hlt1 : ¬ (ls.length : Int) < (ls.length : Int) := by omega
      rw [List.take_of_length_le (Nat.le_refl _)] at RO
      obtain ⟨A10, c10, e10⟩ := Kd.R_slice RO.out
      rw [List.length_map] at e10
      subst e10
      have cd : ∀ W, Below wr.heap.size wr W → Calls Tryz.prog 23 #[.int .i64 2, .int .i64 (m 1).ask, .int .i64 (m 1).time, .int .i64 b, .slice A10 ls.length c10] W fun e w' => e = .returned (.tuple #[.bool true, .int .i64 (nT l (m 1).ask), .int .i64 (nN l : Nat)]) ∧ Below W.heap.size W w' := fun W hW => by
        by_cases h0 : l = []
        · have e1 : ls.length = 0 := by rw [P5.out.length_eq, h0]; rfl
          have e2 : nT l (m 1).ask = (m 1).ask := if_pos h0
          have e3 : nN l = 0 := if_pos h0
          rw [e1, e2, e3]
          exact (decide_none A10 c10 (m 1).ask (m 1).time b W (by have := HK.out.2.2.2; rw [e2] at this; exact this)).mono fun e w' ⟨he, hw⟩ => ⟨he, by rw [hw]; exact Below.refl _ _⟩
        · have e2 : nT l (m 1).ask = tt l 0 := if_neg h0
          obtain ⟨f1, f2⟩ := first_time HA.out.1 P5.out S5.out h0
          have hpos : 0 < (ls.map (·.1)).length := by rw [List.length_map, P5.out.length_eq]; exact List.length_pos_iff.2 h0
          obtain ⟨gb, cap, ev, -, hlt, -⟩ := Kd.R_form RO.out hpos
          injection ev with ea _ ec
          subst ea; subst ec
          have hlm : (ls.map (·.1)).length = ls.length := List.length_map _
          have h := decide_yes gb c10 (ls.map (·.1)) (tt l 0) (m 1).ask (m 1).time b W (fun i hi => i64_at (Kd.R_reads' (Kd.R_below (hlm ▸ RO.out) hW)).2.2 hi) (Nat.lt_of_lt_of_le hlt hW.size) (by rw [hlm]; have := LL.out; omega) S5.out hpos f1 (by have := HA.out.2.2.1; rw [e2] at this; exact this) (by have := HK.out.2.2.2; rw [e2] at this; exact this) (by have := HA.out.2.2.2.1; rw [e2] at this; exact this) (by rw [f2]; exact nN_pos h0)
          rw [hlm, f2, ← e2] at h
          exact h
      have CD := Aside0.mk cd
      clear cd RO
      have R6 := Aside0.mk (R5.out.below RB.out)
      have N6 := Aside0.mk (blk_below N5.out RB.out)
      have M6 := Aside0.mk (blk_below M5.out RB.out)
      have B6 := Aside0.mk (B5.out.then_ RB.out)
      clear R5 N5 M5 B5 RB
      have x1 := (R6.out.kind1).trans (by rw [HK.out.1])
      have x2 := R6.out.ask1
      have x3 := R6.out.time1
      have KX := Aside0.mk (And.intro x1 (And.intro x2 x3))
      have KB := Aside0.mk (below_drew (Below.refl wr.heap.size wr))
      go_upto_region 18 with (fail)
      go_region_held3 (fun w' => w'.cell? ⟨d.g, 16, none⟩ = some (.int .i64 2) ∧ w'.cell? ⟨d.g, 17, none⟩ = some (.int .i64 (m 1).ask) ∧ w'.cell? ⟨d.g, 14, none⟩ = some (.int .i64 (m 1).time)) (go_keep) (first | (go_at_call 23; (with_reducible refine (CD.out _ KB.out).mono ?_); rintro e w7 ⟨rfl, hb⟩; have E7 := Aside0.mk (below_step KB.out hb); have y5 := pw_cell_below hb KX.out.1; have y6 := pw_cell_below hb KX.out.2.1; have y7 := pw_cell_below hb KX.out.2.2; clear hb))
      have R7 := Aside0.mk (R6.out.below E7.out)
      have N7 := Aside0.mk (blk_below N6.out E7.out)
      have M7 := Aside0.mk (blk_below M6.out E7.out)
      have B7 := Aside0.mk (B6.out.then_ E7.out)
      clear R6 N6 M6 B6 CD
      go_upto_region 22 with (fail)
      have LK7 := Aside0.mk (show Lk w w7 d ps ss m K v l g8 v l (.slice none 0 0) [] from ⟨R7.out, M7.out, N7.out, Kd.R_nil _ _ _ _ _, List.Perm.refl _, fun x hx => (List.not_mem_nil hx).elim, HA.out.1, B7.out, rfl⟩)
      have NN := Aside0.mk (show nN l ≤ 900 from Nat.le_trans (nN_le l) HA.out.2.1)
      have UN := Aside0.mk (show ∀ {l' L : List Mg}, (L ++ l').Perm l → (∀ x ∈ L, x.1 = nT l 0) → L.length < nN l → HeapN l' l'.length → l' ≠ [] ∧ (g l' 0).1 = nT l 0 from fun hp hL hlt hh' => next_same HA.out.1 hp hL hlt hh')
      clear R7 M7 N7 B7 E7 C5 P5 S5 LL KX KB x1 x2 x3 y5 y6 y7
      go_loopw [96] (fun v96 wr => ∃ (j : Nat) (v' : Value) (l' : List Mg) (vt : Value) (L : List Mg), j ≤ nN l ∧ v96 = .int .i64 j ∧ L.length = j ∧ Aside0 (Lk w wr d ps ss m K v l g8 v' l' vt L)) (fun j _ => nN l - (intOf j).toNat)
      case atStart => exact ⟨0, v, l, .slice none 0 0, [], by omega, rfl, rfl, LK7⟩
      case round =>
        clear LK7
        obtain ⟨j, v', l', vt, L, hj, rfl, hLj, LK⟩ := hrel
        by_cases hlt : j < nN l
        · have hlt1 : (j : Int) < (nN l : Int) := by omega
          obtain ⟨hne, hx1⟩ := UN.out LK.out.perm LK.out.same (by omega) LK.out.heap
          have hpos : 0 < l'.length := List.length_pos_iff.2 hne
          have hl9 : l'.length ≤ 900 := by
            have h := LK.out.perm.length_eq
            rw [List.length_append] at h
            have := HA.out.2.1
            omega
          have cp := qpop_calls LK.out.rq.qu LK.out.heap (l'.length - 1) (by omega) (by omega)
          generalize hx : g l' 0 = x at cp hx1
          unfold mvv at cp
          have CP := Aside0.mk cp
          have HX := Aside0.mk (And.intro hLj hx1)
          have GG := Aside0.mk (show ¬ Zq (d.q 1) (d.r 1) v' g8 ∧ ¬ Zq (d.q 1) (d.r 1) v' w.heap.size ∧ ∀ k, w.heap.size ≤ k → ¬ Zq (d.q 1) (d.r 1) v' k from by
            have h : ∀ k, w.heap.size ≤ k → ¬ Zq (d.q 1) (d.r 1) v' k := fun k hk hz => by
              rcases hz with e | e | e
              · have := HL.out.2.2.2.1 1 (by omega); omega
              · have := HL.out.2.2.2.2.1; omega
              · rw [LK.out.own] at e
                have := HL.out.2.2.2.2.2 k e.symm
                omega
            exact ⟨h g8 (by have := NE.out; omega), h _ (Nat.le_refl _), h⟩)
          clear cp hx hx1 hne hpos hl9 hLj
          have y3 := LK.out.rq.q1
          go_upto_region 24 with (go_at_call 24; (with_reducible refine CP.out.mono ?_); rintro e w8 ⟨rfl, v8, l8, hq, hh, hp, hb, hv⟩; have Q8 := Aside0.mk hq; have H8 := Aside0.mk hh; have P8 := Aside0.mk hp; have B8 := Aside0.mk hb; have V8 := Aside0.mk hv; clear hq hh hp hb hv y3)
          have R8 := Aside0.mk (LK.out.rq.queue Q8.out B8.out (Or.inl V8.out))
          have E9 := Aside0.mk (show Below w8.heap.size w8 (w8.alloc (.cells #[.int .i64 x.1, .int .i64 0, .int .i64 x.2, .int .i64 1, .int .i64 0, .int .i64 x.2] 41 (0, 0))) from below_alloc (Below.refl _ _) _)
          have R9 := Aside0.mk (R8.out.below E9.out)
          have M9 := Aside0.mk (blk_below (B8.out.blk LK.out.m8 GG.out.1) E9.out)
          have N9 := Aside0.mk (blk_below (B8.out.blk LK.out.n0 GG.out.2.1) E9.out)
          have O9 := Aside0.mk (Kd.R_below (Kd.R_mono (Kd.R_step (Kd.R_tight rfl LK.out.row) (fun k hk hlt => B8.out.block k hlt (GG.out.2.2 k (Kd.R_base LK.out.row k hk.symm)))) (fun _ _ => trivial)) E9.out)
          have T9 := Aside0.mk ((LK.out.but.trans (B8.out.mono (fun k hk => Or.inr (Zq_congr LK.out.own k hk)))).then_ E9.out)
          have X9 := Aside0.mk (blk_new w8 (.cells #[.int .i64 x.1, .int .i64 0, .int .i64 x.2, .int .i64 1, .int .i64 0, .int .i64 x.2] 41 (0, 0)))
          clear R8 E9 Q8 B8
          generalize (w8.alloc (.cells #[.int .i64 x.1, .int .i64 0, .int .i64 x.2, .int .i64 1, .int .i64 0, .int .i64 x.2] 41 (0, 0))) = w9 at R9 M9 N9 O9 T9 X9 ⊢
          generalize w8.heap.size = g9 at X9 ⊢
          have z1 : w9.cell? ⟨g8, 1, none⟩ = some vt := (blk_cell M9.out 1).trans rfl
          have c0 : w9.cell? ⟨g9, 0, none⟩ = some (.int .i64 x.1) := (blk_cell X9.out 0).trans rfl
          have c1 : w9.cell? ⟨g9, 1, none⟩ = some (.int .i64 0) := (blk_cell X9.out 1).trans rfl
          have c2 : w9.cell? ⟨g9, 2, none⟩ = some (.int .i64 x.2) := (blk_cell X9.out 2).trans rfl
          have c3 : w9.cell? ⟨g9, 3, none⟩ = some (.int .i64 1) := (blk_cell X9.out 3).trans rfl
          have c4 : w9.cell? ⟨g9, 4, none⟩ = some (.int .i64 0) := (blk_cell X9.out 4).trans rfl
          have c5x : w9.cell? ⟨g9, 5, none⟩ = some (.int .i64 x.2) := (blk_cell X9.out 5).trans rfl
          have j900 : j ≤ 900 := by have := NN.out; omega
          go_wp2_with ((with_reducible refine gate_builtin (b := .append) (xs := #[.tmp 107, .tmp 109]) rfl ?_); at_builtin; refine Kd.R_append kM (w0 := w9) w.heap.size rfl (.tmp 107) (.tmp 109) 27 41 _ 48 rfl Tryz.underlying27 msgInfo rfl (by decide) (by omega) vt L x (mv x) (fun _ => True) (fun _ => False) rfl rfl (kM_mkM _ _ _ x) (fun _ h => h.elim) (fun _ _ => trivial) O9.out (Below.refl _ _) T9.out.size (by rw [HX.out.1]; omega) ?_; intro v10 w10 ho hb hg hat; clear hat; obtain ⟨n10, A11, c11, e10⟩ : ∃ n1 A1 c1, v10 = .slice A1 n1 c1 := (Kd.R_slice ho).elim (fun A1 h => h.elim (fun c1 h => ⟨_, A1, c1, h⟩)); subst e10; have O10 := Aside0.mk ho; have G10 := Aside0.mk hg; have M10 := Aside0.mk (blk_grown M9.out hg (Kd.R_ne O9.out M9.out (by decide))); have N10 := Aside0.mk (blk_grown N9.out hg (Kd.R_ne O9.out N9.out (by decide))); have z10 := (blk_cell M10.out 1).trans rfl; have f10 := blk_frozen M10.out 1; have K10 := Aside0.mk hb; clear ho hb hg z1 c0 c1 c2 c3 c4 c5x)
          go_roundw
          case rel =>
            have LO := HL.out.own (V8.out.trans LK.out.own)
            have L8 : w.heap.size ≤ g8 := by have := NE.out; omega
            exact ⟨j + 1, v8, l8, .slice A11 n10 c11, L ++ [x], by omega, by go_num, by rw [List.length_append, HX.out.1]; rfl, ⟨{
              rq := (R9.out.keep LO K10.out).far LO L8 1 _
              m8 := blk_put M10.out 1 _ rfl
              n0 := blk_far N10.out (p := ⟨g8, 1, none⟩) (by have := NE.out; show w.heap.size ≠ g8; omega) _
              row := Kd.R_mono (Kd.R_far (Kd.R_tight rfl O10.out) (p := ⟨g8, 1, none⟩) (fun k hk e => Kd.R_ne O10.out M10.out (by decide) (by rw [← hk, show k = g8 from e])) _) (fun _ _ => trivial)
              perm := by rw [List.append_assoc]; exact (List.Perm.append_left L P8.out).trans LK.out.perm
              same := fun y hy => (List.mem_append.1 hy).elim (LK.out.same y) (fun h => by rw [List.mem_singleton.1 h]; exact HX.out.2)
              heap := H8.out
              but := (T9.out.thenB K10.out).newer L8 1 _
              own := V8.out.trans LK.out.own }⟩⟩
          case measure => simp [intOf]; omega
        · obtain rfl : j = nN l := by omega
          have hlt1 : ¬ (nN l : Int) < (nN l : Int) := by omega
          obtain ⟨nt, At, ct, et⟩ : ∃ n1 A1 c1, vt = .slice A1 n1 c1 := (Kd.R_slice LK.out.row).elim (fun A1 h => h.elim (fun c1 h => ⟨_, A1, c1, h⟩))
          subst et
          have e1 : g8 ≠ d.g := by have := NE.out; omega
          have e2 := e1.symm
          have e3 : w.heap.size ≠ d.g := by have := NE.out; omega
          have e4 := e3.symm
          have e5 : g8 ≠ w.heap.size := by have := NE.out; omega
          have e6 := e5.symm
          have m0 := (blk_cell LK.out.m8 0).trans rfl
          have m1 := (blk_cell LK.out.m8 1).trans rfl
          have m2 := (blk_cell LK.out.m8 2).trans rfl
          have m3 := (blk_cell LK.out.m8 3).trans rfl
          have n0 := (blk_cell LK.out.n0 0).trans rfl
          have n1 := (blk_cell LK.out.n0 1).trans rfl
          have n2 := (blk_cell LK.out.n0 2).trans rfl
          have n3 := (blk_cell LK.out.n0 3).trans rfl
          have f0 := blk_frozen LK.out.n0 0
          have f1 := blk_frozen LK.out.n0 1
          have f2 := blk_frozen LK.out.n0 2
          have f3 := blk_frozen LK.out.n0 3
          have g2 := blk_frozen LK.out.m8 2
          have g3 := blk_frozen LK.out.m8 3
          have h1 := LK.out.rq.fz 14
          have h2 := LK.out.rq.fz 16
          have h3 := LK.out.rq.fz 17
          have x1 := LK.out.rq.kind1
          have x2 := LK.out.rq.ask1
          have x3 := LK.out.rq.time1
          go_wp2
          have P0 := blk_far (blk_far (blk_far (blk_far (blk_far LK.out.n0 (p := ⟨g8, 2, none⟩) e6 (.bool true)) (p := ⟨g8, 3, none⟩) e6 (.int .i64 (nT l (m 1).ask))) (p := ⟨d.g, 14, none⟩) e3 (.int .i64 (nT l (m 1).ask))) (p := ⟨d.g, 16, none⟩) e3 (.int .i64 0)) (p := ⟨d.g, 17, none⟩) e3 (.int .i64 0)
          have q0 := blk_put P0 0 (.slice none 0 0) rfl
          have q1 := blk_put q0 1 (.slice At nt ct) rfl
          have q2 := blk_put q1 2 (.bool true) rfl
          have q3 := blk_put q2 3 (.int .i64 (nT l (m 1).ask)) rfl
          refine bodyPost_ret (results_list (rs := [.cell 4 29, .tmp 5]) rfl (by simp) (.cell w.heap.size 29 _ (0, 0) _ rfl q3 Tryz.underlying29 rfl (by kernel_rfl) (.tmp .nil))) rfl ?_
          have L8 : w.heap.size ≤ g8 := by have := NE.out; omega
          have LO := HL.out.own LK.out.own
          unfold LookP
          refine ⟨.slice At nt ct, L, v', l', rfl, ((((((((LK.out.rq.far LO L8 2 _).far LO L8 3 _).set 14 _ (m' := mset m 1 { m 1 with time := nT l (m 1).ask }) rfl).set 16 _ (m' := mset m 1 { m 1 with time := nT l (m 1).ask, kind := 0 }) rfl).set 17 _ (m' := mset m 1 { m 1 with time := nT l (m 1).ask, kind := 0, ask := 0 }) rfl).far LO (Nat.le_refl _) 0 _).far LO (Nat.le_refl _) 1 _).far LO (Nat.le_refl _) 2 _).far LO (Nat.le_refl _) 3 _, ?_, LK.out.perm, LK.out.same, hLj, LK.out.heap, ((((((((LK.out.but.newer L8 2 _).newer L8 3 _).set (Or.inl rfl) _).set (Or.inl rfl) _).set (Or.inl rfl) _).newer (Nat.le_refl _) 0 _).newer (Nat.le_refl _) 1 _).newer (Nat.le_refl _) 2 _).newer (Nat.le_refl _) 3 _, LK.out.own⟩
          have RT := Kd.R_tight rfl LK.out.row
          have k8 : ∀ k, some k = (Value.slice At nt ct).ownBlock → k ≠ g8 := fun k hk e => Kd.R_ne LK.out.row LK.out.m8 (by decide) (by rw [← hk, e])
          have kg : ∀ k, some k = (Value.slice At nt ct).ownBlock → k ≠ d.g := fun k hk e => by
            have h := Kd.R_base LK.out.row k hk.symm
            have := NE.out
            omega
          have kn : ∀ k, some k = (Value.slice At nt ct).ownBlock → k ≠ w.heap.size := fun k hk e => Kd.R_ne LK.out.row LK.out.n0 (by decide) (by rw [← hk, e])
          exact Kd.R_mono (Kd.R_far (Kd.R_far (Kd.R_far (Kd.R_far (Kd.R_far (Kd.R_far (Kd.R_far (Kd.R_far (Kd.R_far RT (p := ⟨g8, 2, none⟩) k8 _) (p := ⟨g8, 3, none⟩) k8 _) (p := ⟨d.g, 14, none⟩) kg _) (p := ⟨d.g, 16, none⟩) kg _) (p := ⟨d.g, 17, none⟩) kg _) (p := ⟨w.heap.size, 0, none⟩) kn _) (p := ⟨w.heap.size, 1, none⟩) kn _) (p := ⟨w.heap.size, 2, none⟩) kn _) (p := ⟨w.heap.size, 3, none⟩) kn _) (fun _ _ => trivial)
end Go.Proofs.YtaaaocckfnlgdaaGreatDoorT
