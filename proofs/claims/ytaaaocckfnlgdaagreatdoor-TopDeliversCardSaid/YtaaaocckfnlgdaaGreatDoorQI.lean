import Derived.Test.YtaaaocckfnlgdaaGreatDoorQH
import Derived.Test.YtaaaocckfnlgdaaGreatDoorQA
/- The calls that TopDelivers makes, at the states that it comes to. -/
namespace Go.Proofs.YtaaaocckfnlgdaaGreatDoorT
open Go.RowKit Go.Proofs.YtaaaocckfnlgdaaGreatDoorW.PrintWords Go.Proofs.YtaaaocckfnlgdaaGreatDoorW.PrintLast Go.Proofs.YtaaaocckfnlgdaaGreatDoorW.PrintMore Go.Proofs.YtaaaocckfnlgdaaGreatDoor.PBase Go.Proofs.YtaaaocckfnlgdaaGreatDoorH
set_option maxRecDepth 100000
set_option linter.unusedVariables false
set_option linter.unusedSimpArgs false
theorem Rq.of {w : World} {d : Ad} {m : Nat → TM} (R : Rt w d (wAt 1 2) (wAt 1 2) m) (X : Ex w d) (hab : d.ab = [1]) : Rq (.slice none 0 0) [] (fun _ => False) w d (wAt 1 2) (wAt 1 2) m := by
  have ta := R.tab.reads 0 1 (by rw [hab]; rfl)
  have q1 := R.que 1 (by omega)
  obtain ⟨c, hc⟩ := X.map1
  exact
    { blk := R.blk
      tab := R.tab
      que := fun i hi _ => R.que i hi
      qu := { blk := q1, row := Kd.R_nil _ _ _ _ _, map := ⟨#[], c, hc, fun e he => by simp at he⟩, all := fun x hx => (List.not_mem_nil hx).elim }
      g0 := R.g0
      t0 := R.t0
      nt := R.nt
      na := R.na
      nq := R.nq
      nqt := R.nqt
      hq1 := X.q1
      hr1 := X.r1
      qd := X.qd
      nqa := fun e => by
        have h : w.cell? ⟨d.q 1, 0, none⟩ = some (.int .i64 64) := (blk_cell q1 0).trans rfl
        rw [e, ta] at h
        injection h with h
        injection h with h
        cases h
      va := fun e => by simp [Value.ownBlock] at e
      ra := fun e => by
        have h : w.cell? ⟨d.r 1, 0, none⟩ = none := by simp [World.cell?, hc]
        rw [e, ta] at h
        cases h
      bs := Nat.le_trans R.g0 (Nat.le_of_lt (blk_lt R.blk))
      tl := World.block_lt_of_cell? w ⟨d.ta, 0, none⟩ ta }
theorem pubs_one {d : Ad} (hab : d.ab = [1]) : pubsB d.ab.length (wAt 1 2) 0 0 = true := by
  rw [hab]
  decide
theorem routes_one {d : Ad} (hab : d.ab = [1]) : routeL d.ab (wAt 1 2) 0 0 = [1] := by
  rw [hab]
  decide
section
variable {v : Value} {l : List Mg} {K : Mg → Prop} {w : World} {d : Ad} {x1 : TM}
def sender (x i s0 : Int) : TM := ⟨true, true, 0, x, 0, 0, i, s0⟩
def asked (x i s0 : Int) : TM := ⟨true, true, 0, x, 1, 1000, i, s0⟩
def taker (y T s1 : Int) : TM := ⟨true, true, T, y, 0, 0, 0, s1⟩
def seeks (y T s1 : Int) : TM := ⟨true, true, T, y, 2, 1000, 0, s1⟩
theorem dSend {x i s0 y s1 : Int} (H : Rq v l K w d (wAt 1 2) (wAt 1 2) (stM (sender x i s0) (taker y 0 s1))) (hx : 1 ≤ x ∧ x ≤ 1000) (hi : 0 ≤ i ∧ i < 1000) (t : Int) (ht : x ≤ t ∧ t ≤ 1000000) (hab : d.ab = [1]) (hl : l.length < 64) (hh : HeapN l l.length) (hK : ∀ z, K z → z ≠ (t, i)) :
    Calls Tryz.prog 11 #[.pointer (some ⟨d.g, 0, none⟩), .int .i64 0, .int .i64 0, .int .i64 i, .int .i64 t, .bool true] w fun e w' => e = .returned (.tuple #[.int .i64 i, .int .i64 0]) ∧ ∃ v' l', Rq v' l' (fun z => K z ∨ z = (t, i)) w' d (wAt 1 2) (wAt 1 2) (stM (sender x (i + 1) s0) (taker y 0 s1)) ∧ l'.Perm (l ++ [(t, i)]) ∧ HeapN l' l'.length ∧ But (Zs d v) w w' ∧ (v'.ownBlock = v.ownBlock ∨ ∃ k, v'.ownBlock = some k ∧ w.heap.size ≤ k) := by
  have h := send0_calls H rfl rfl rfl hx rfl i ⟨rfl, hi.1, hi.2⟩ t ht (by rw [hab]; decide) (pubs_one hab) (routes_one hab) hl hh hK
  rw [stM_set0] at h
  exact h
theorem dAsk0 {x i s0 : Int} (H : Rq v l K w d (wAt 1 2) (wAt 1 2) (stM (sender x i s0) x1)) :
    Calls Tryz.prog 7 #[.pointer (some ⟨d.g, 0, none⟩), .int .i64 0, .int .i64 1, .int .i64 1000] w (TurnsQ v l K d (wAt 1 2) (wAt 1 2) (stM (asked x i s0) x1) w) := by
  have h := qask0 H rfl rfl 1 1000 (by omega) (by omega) (by omega) (by omega) (show (0 : Int) ≤ 1000 by decide)
  rw [stM_set0] at h
  exact h
theorem dAsk1 {x0 : TM} {y T s1 : Int} (H : Rq v l K w d (wAt 1 2) (wAt 1 2) (stM x0 (taker y T s1))) (hT : T ≤ 1000) :
    Calls Tryz.prog 7 #[.pointer (some ⟨d.g, 0, none⟩), .int .i64 1, .int .i64 2, .int .i64 1000] w (TurnsQ v l K d (wAt 1 2) (wAt 1 2) (stM x0 (seeks y T s1)) w) := by
  have h := qask1 H rfl rfl 2 1000 (by omega) (by omega) (by omega) (by omega) hT
  rw [stM_set1] at h
  exact h
/-- What the second one is given, at these states. -/
def LookD (v : Value) (l : List Mg) (K : Mg → Prop) (w : World) (d : Ad) (x0 : TM) (y s1 : Int) (e : Ending) (w' : World) : Prop :=
  ∃ vt L v' l', e = .returned (GivenQ vt (nT l 1000)) ∧ Rq v' l' K w' d (wAt 1 2) (wAt 1 2) (stM x0 (taker y (nT l 1000) s1)) ∧ Kd.R kM 41 w' w.heap.size (fun _ => True) vt L ∧
      (L ++ l').Perm l ∧ (∀ x ∈ L, x.1 = nT l 0) ∧ L.length = nN l ∧ HeapN l' l'.length ∧ But (Zs d v) w w' ∧ v'.ownBlock = v.ownBlock
theorem dLook {x i s0 y T s1 : Int} (H : Rq v l K w d (wAt 1 2) (wAt 1 2) (stM (asked x i s0) (seeks y T s1))) (hx : 1 ≤ x ∧ x ≤ 1000) (hh : HeapN l l.length) (hl : l.length ≤ 900) (hn : nT l 1000 ≤ 1000) (hT : T ≤ nT l 1000) (hT2 : T ≤ 1000) :
    Calls Tryz.prog 8 #[.pointer (some ⟨d.g, 0, none⟩), .int .i64 1] w (LookD v l K w d (asked x i s0) y s1) := by
  have h := lookq_calls H rfl rfl rfl (1000 + x) (boundq_val (stM (asked x i s0) (seeks y T s1)) (stM_still _ _) (frs l) (Or.inr rfl) hx.1 (show x ≤ 1048576 by omega) (show (0 : Int) ≤ 1000 by decide) (show (1000 : Int) ≤ 1000000 by decide)) hh hl (show nT l 1000 < 1000 + x by omega) hn hT hT2
  unfold LookP at h
  rw [stM_set1] at h
  exact h
end
theorem Zs_base {v : Value} {l : List Mg} {K : Mg → Prop} {w : World} {d : Ad} {ps ss : List Int} {m : Nat → TM} (H : Rq v l K w d ps ss m) : ∀ k, Zs d v k → d.base ≤ k := fun k hk => by
  rcases hk with e | e | e | e
  · rw [e]; exact H.g0
  · rw [e]; exact H.hq1
  · rw [e]; exact H.hr1
  · exact Kd.R_base H.qu.row k e.symm
theorem Zg_base {v : Value} {l : List Mg} {K : Mg → Prop} {w : World} {d : Ad} {ps ss : List Int} {m : Nat → TM} (H : Rq v l K w d ps ss m) : ∀ k, (k = d.g ∨ k = d.bt) → d.base ≤ k := fun k hk => by
  rcases hk with e | e
  · rw [e]; exact H.g0
  · rw [e]; exact H.t0
/-- A row of whole numbers is none of the federation's. -/
theorem row_apart {v : Value} {l : List Mg} {K : Mg → Prop} {w : World} {d : Ad} {ps ss : List Int} {m : Nat → TM} (H : Rq v l K w d ps ss m) {B : Nat} {ok : Nat → Prop} {u : Value} {xs : List Int} (R : Kd.R (Kd.int .i64) 3 w B ok u xs) : (∀ k, u.ownBlock = some k → ¬ Zs d v k) ∧ ∀ k, u.ownBlock = some k → ¬ (k = d.g ∨ k = d.bt) := by
  have hg : some d.g ≠ u.ownBlock := Kd.R_ne R H.blk (by decide)
  have hb : some d.bt ≠ u.ownBlock := Kd.R_ne R H.tab.blk (by decide)
  have hq : some (d.q 1) ≠ u.ownBlock := Kd.R_ne R H.qu.blk (by decide)
  refine ⟨fun k hk hz => ?_, fun k hk hz => ?_⟩
  · rcases hz with e | e | e | e
    · exact hg (by rw [hk, e])
    · exact hq (by rw [hk, e])
    · obtain ⟨cells, hc⟩ := Kd.R_typed R k hk
      exact map_ne H.qu.map hc e.symm
    · obtain ⟨cells, hc⟩ := Kd.R_typed R k hk
      exact Kd.R_ne H.qu.row hc (by decide) e
  · rcases hz with e | e
    · exact hg (by rw [hk, e])
    · exact hb (by rw [hk, e])
theorem row_keep {S : Nat → Prop} {w w' : World} {B : Nat} {u : Value} {xs : List Int} (R : Kd.R (Kd.int .i64) 3 w B (fun _ => True) u xs) (hb : But S w w') (hs : ∀ k, u.ownBlock = some k → ¬ S k) : Kd.R (Kd.int .i64) 3 w' B (fun _ => True) u xs :=
  Kd.R_mono (Kd.R_step (Kd.R_tight rfl R) (fun k hk hlt => hb.block k hlt (hs k hk.symm))) (fun _ _ => trivial)
end Go.Proofs.YtaaaocckfnlgdaaGreatDoorT
/- TopDelivers, walked. -/
namespace Go.Proofs.YtaaaocckfnlgdaaGreatDoorT
open Go.RowKit Go.Proofs.YtaaaocckfnlgdaaGreatDoorW.PrintWords Go.Proofs.YtaaaocckfnlgdaaGreatDoorW.PrintLast Go.Proofs.YtaaaocckfnlgdaaGreatDoorW.PrintMore Go.Proofs.YtaaaocckfnlgdaaGreatDoorU Go.Proofs.YtaaaocckfnlgdaaGreatDoor.PBase Go.Proofs.YtaaaocckfnlgdaaGreatDoorH
set_option maxRecDepth 100000
set_option linter.unusedVariables false
set_option linter.unusedSimpArgs false
theorem below_none {a c : World} (h : a.grownBy c none) : Below a.heap.size a c := ⟨h.os, h.tape, h.output, h.size, fun k hk => h.block k hk (by simp)⟩
theorem Rq.weak {v : Value} {l : List Mg} {K K' : Mg → Prop} {w : World} {d : Ad} {ps ss : List Int} {m : Nat → TM} (H : Rq v l K w d ps ss m) (h : ∀ z, K z → K' z) : Rq v l K' w d ps ss m :=
  { H with qu := { H.qu with map := H.qu.map.mono h, all := fun x hx => h x (H.qu.all x hx) } }
theorem u8_at {w : World} {A : Option Addr} {n : Nat} {xs : List Int} (h : Kd.C (Kd.int .u8) w A n xs) {k : Nat} (hk : k < n) : ∃ ad, A = some ad ∧ w.cell? (ad.add k) = some (.int .u8 (xs.getD k 0)) := by
  obtain ⟨ad, c, e, _, hK, hc⟩ := Kd.C_get h (0 : Int) (k : Int) (by omega) (by omega)
  obtain rfl := hK
  refine ⟨ad, e, ?_⟩
  have h0 : w.cell? (ad.add ((k : Int).toNat * 1 + 0)) = some (.int .u8 (xs.getD (k : Int).toNat 0)) := hc 0 _ rfl
  simpa using h0
theorem i64_atA {w : World} {A : Option Addr} {n : Nat} {xs : List Int} (h : Kd.C (Kd.int .i64) w A n xs) {k : Nat} (hk : k < n) : ∃ ad, A = some ad ∧ w.cell? (ad.add k) = some (.int .i64 (xs.getD k 0)) := by
  obtain ⟨ad, c, e, _, hK, hc⟩ := Kd.C_get h (0 : Int) (k : Int) (by omega) (by omega)
  obtain rfl := hK
  refine ⟨ad, e, ?_⟩
  have h0 : w.cell? (ad.add ((k : Int).toNat * 1 + 0)) = some (.int .i64 (xs.getD (k : Int).toNat 0)) := hc 0 _ rfl
  simpa using h0
/-- What holds when i messages have been sent. -/
structure Sd (w wr : World) (d : Ad) (x y s0 s1 : Int) (u : Value) (ws : List Int) (i : Nat) (v : Value) (l : List Mg) : Prop where
  rq : Rq v l (fun z => z.2 < (i : Int)) wr d (wAt 1 2) (wAt 1 2) (stM (sender x i s0) (taker y 0 s1))
  len : l.length = i
  heap : HeapN l l.length
  row : Kd.R (Kd.int .i64) 3 wr w.heap.size (fun _ => True) u ws
  asc : Asc ws
  perm : (l.map (·.1)).Perm ws
  most : ∀ z ∈ ws, 0 ≤ z ∧ z ≤ 300
  bel : Below w.heap.size w wr
/-- What holds when gt messages have come. -/
structure Gt (w wr : World) (d : Ad) (x y n s0 s1 : Int) (K : Mg → Prop) (u : Value) (ws : List Int) (gt : Nat) (T : Int) (v : Value) (l : List Mg) : Prop where
  rq : Rq v l K wr d (wAt 1 2) (wAt 1 2) (stM (asked x n s0) (taker y T s1))
  heap : HeapN l l.length
  row : Kd.R (Kd.int .i64) 3 wr w.heap.size (fun _ => True) u ws
  perm : (l.map (·.1)).Perm (ws.drop gt)
  low : ∀ z ∈ ws.drop gt, T ≤ z
  top : T ≤ 1000
  bel : Below w.heap.size w wr
theorem drop_at {S : List Int} {a k : Nat} : S.getD (a + k) 0 = (S.drop a).getD k 0 := by
  rw [List.getD_eq_getElem?_getD, List.getD_eq_getElem?_getD, List.getElem?_drop]
set_option maxHeartbeats 16000000 in
theorem delivers_calls (A : Option Addr) (c : Nat) (ts : List Int) (a b : Int) (ha : 0 ≤ a ∧ a ≤ 255) (hb : 0 ≤ b ∧ b ≤ 255) (hl : ∀ x ∈ ts, 0 ≤ x ∧ x ≤ 255) (w : World) (hr : Kd.C (Kd.int .u8) w A ts.length ts) (hmax : ts.length ≤ 9223372036854775807) :
    Calls Tryz.prog 5 #[.slice A ts.length c, .int .u8 a, .int .u8 b] w fun e w' => e = .returned (.bool true) ∧ Below w.heap.size w w' := by
  obtain ⟨a0, a1⟩ := ha
  obtain ⟨b0, b1⟩ := hb
  have HR := Aside0.mk hr
  have HL := Aside0.mk hl
  clear hr hl
  by_cases hn : 40 < ts.length
  · have hn1 : (40 : Int) < (ts.length : Int) := by omega
    go_enter Tryz.func5, Tryz.ntmps5
    go_wp2
    go_ret
    exact ⟨rfl, Below.refl _ _⟩
  · have hn1 : ¬ (40 : Int) < (ts.length : Int) := by omega
    have hn2 : (ts.length : Int) ≤ 40 := by omega
    have HX := Aside0.mk (show 1 ≤ 1 + a % 9 ∧ 1 + a % 9 ≤ 9 by omega)
    have HY := Aside0.mk (show 1 ≤ 1 + b % 9 ∧ 1 + b % 9 ≤ 9 by omega)
    have CP := Aside0.mk (fun W => pairq_calls (1 + a % 9) (1 + b % 9) ⟨HX.out.1, by have := HX.out.2; omega⟩ ⟨HY.out.1, by have := HY.out.2; omega⟩ W)
    go_enter Tryz.func5, Tryz.ntmps5
    go_upto_region 7 with (go_at_call 6; (with_reducible refine (CP.out _).mono ?_); rintro e w1 ⟨d, s0, s1, rfl, hr, hx, hab, hb, hw⟩; have R1 := Aside0.mk (Rq.of hr hx hab); have D1 := Aside0.mk hb; have B1 := Aside0.mk hw; have AB := Aside0.mk hab; clear hr hx hab hb hw)
    go_upto_region 8 with ((with_reducible refine gate_dst (N := 38) rfl ?_); refine Kd.R_lit (w0 := w) (Kd.int .i64) w.heap.size 3 ?hg (N := 38) ?hd (xs := ([] : List Int)) (inner := []) (ok := fun _ => True) (okp := fun _ => True) ?hr ?hp (fun _ hk => hk) trivial B1.out B1.out.size (by simp) ?_; (case hd => rfl); (case hg => rfl); (case hr => first | (go_simp; done) | (go_simp; rfl)); (case hp => exact (Reps.none _ _)); intro u2 w2 ho hb hg hnew; clear hnew; have O2 := Aside0.mk ho; have B2 := Aside0.mk hb; have G2 := Aside0.mk hg; clear ho hb hg)
    have R2 := Aside0.mk (R1.out.below (below_none G2.out))
    clear R1 B1 G2 CP
    go_upto_region 9 with (fail)
    go_loopw [9, 10] (fun v9 v10 wr => ∃ (i : Nat) (ws : List Int) (v : Value) (l : List Mg), i ≤ ts.length ∧ v10 = .int .i64 i ∧ Aside0 (Sd w wr d (1 + a % 9) (1 + b % 9) s0 s1 v9 ws i v l)) (fun _ i _ => ts.length - (intOf i).toNat)
    case atStart => exact ⟨0, [], .slice none 0 0, [], by omega, rfl, ⟨⟨R2.out.weak (fun z hz => hz.elim), rfl, fun i h0 h1 => absurd h1 (by simp), O2.out, List.Pairwise.nil, List.Perm.refl _, fun z hz => (List.not_mem_nil hz).elim, B2.out⟩⟩⟩
    case round =>
      clear R2 O2 B2
      obtain ⟨i, ws, v, l, hi, rfl, SS⟩ := hrel
      obtain ⟨Au, cu, eu⟩ := Kd.R_slice SS.out.row
      subst eu
      have WL := Aside0.mk (show ws.length = i from by have h := SS.out.perm.length_eq; rw [List.length_map, SS.out.len] at h; omega)
      by_cases hlt : i < ts.length
      · have hlt1 : (i : Int) < (ts.length : Int) := by omega
        obtain ⟨ad, rfl, kc⟩ := u8_at HR.out hlt
        replace kc := pw_cell_below SS.out.bel kc
        have hv := HL.out (ts.getD i 0) (by rw [List.getD_eq_getElem?_getD, List.getElem?_eq_getElem hlt]; exact List.getElem_mem hlt)
        generalize ts.getD i 0 = tv at kc hv
        obtain ⟨v0, v1⟩ := hv
        obtain ⟨t, et⟩ : ∃ t, 1 + a % 9 + tv = t := ⟨_, rfl⟩
        have HT := Aside0.mk (show (1 + a % 9 ≤ t ∧ t ≤ 1000000) ∧ t ≤ 300 from by omega)
        go_upto_region 12 with (fail)
        have CS := Aside0.mk (dSend SS.out.rq (by have := HX.out; omega) (by omega) t HT.out.1 AB.out (by rw [SS.out.len]; omega) SS.out.heap (fun z hz e => by rw [e] at hz; exact absurd hz (Int.lt_irrefl _)))
        clear kc et
        go_upto_region 13 with (go_at_call 11; (with_reducible refine CS.out.mono ?_); rintro e w3 ⟨rfl, v3, l3, hq, hp, hh, hb, hv⟩; have Q3 := Aside0.mk hq; have P3 := Aside0.mk hp; have H3 := Aside0.mk hh; have B3 := Aside0.mk hb; clear hq hp hh hb hv)
        have W3 := Aside0.mk (But.below SS.out.bel B3.out SS.out.bel.size (fun k hk => Nat.le_trans D1.out (Zs_base SS.out.rq k hk)))
        have U3 := Aside0.mk (row_keep SS.out.row B3.out (row_apart SS.out.rq SS.out.row).1)
        go_upto_region 16 with ((with_reducible refine gate_dst (N := 66) rfl ?_); refine Kd.R_lit (w0 := w3) (Kd.int .i64) w3.heap.size 3 ?hg (N := 66) ?hd (xs := ([] : List Int)) (inner := []) (ok := fun _ => True) (okp := fun _ => True) ?hr ?hp (fun _ hk => hk) trivial (Below.refl _ _) (Nat.le_refl _) (by simp) ?_; (case hd => rfl); (case hg => rfl); (case hr => first | (go_simp; done) | (go_simp; rfl)); (case hp => exact (Reps.none _ _)); intro u4 w4 ho hb hg hnew; clear hnew hg; have O4 := Aside0.mk ho; have B4 := Aside0.mk hb; clear ho hb)
        go_upto_region 18 with (fail)
        go_loopw [14, 15, 16] (fun v14 v15 v16 wr => ∃ (k : Nat) (out : List Int) (dn : Bool), k ≤ ws.length ∧ v16 = .int .i64 k ∧ v15 = .bool dn ∧ Aside0 (Ins t ws out k dn) ∧ Aside0 (out.length ≤ 2 * k) ∧ Aside0 (Kd.R (Kd.int .i64) 3 wr w3.heap.size (fun _ => True) v14 out) ∧ Aside0 (Below w3.heap.size w3 wr)) (fun _ _ k _ => ws.length - (intOf k).toNat)
        case atStart => exact ⟨0, [], false, by omega, rfl, rfl, ⟨ins_start t ws⟩, ⟨by simp⟩, O4, B4⟩
        case round =>
          clear O4 B4
          obtain ⟨k, out, dn, hk, rfl, rfl, IN, LO, RO, RB⟩ := hrel
          by_cases hkl : k < ws.length
          · have hkl1 : (k : Int) < (ws.length : Int) := by omega
            have hk40 : k ≤ 40 := by have := WL.out; omega
            obtain ⟨ad2, rfl, kc0⟩ := i64_atA (Kd.R_reads' U3.out).2.2 hkl
            obtain ⟨yv, ey⟩ : ∃ yv, ws.getD k 0 = yv := ⟨_, rfl⟩
            rw [ey] at kc0
            have KC := Aside0.mk kc0
            have kc := pw_cell_below RB.out kc0
            clear kc0
            cases dn with
            | true =>
              have I2 := Aside0.mk (ey ▸ ins_done IN.out hkl)
              go_wp2_with ((with_reducible refine gate_builtin (b := .append) (xs := #[.tmp 87, .tmp 92]) rfl ?_); at_builtin; refine Kd.R_append (Kd.int .i64) (w0 := w3) w3.heap.size rfl (.tmp 87) (.tmp 92) 35 3 _ 8 rfl Tryz.underlying35 info_int rfl (by decide) (by omega) _ out yv [.int .i64 yv] (fun _ => True) (fun _ => False) rfl rfl rfl (fun _ h => h.elim) (fun _ _ => trivial) RO.out RB.out RB.out.size (by have h := LO.out; omega) ?_; intro v7 w7 ho hb hg hat; clear hg hat; have O7 := Aside0.mk ho; have B7 := Aside0.mk hb; clear ho hb)
              go_roundw
              case rel => exact ⟨k + 1, out ++ [yv], true, by omega, by go_num, rfl, I2, ⟨by rw [List.length_append]; have h := LO.out; simp; omega⟩, O7, B7⟩
              case measure => simp [intOf]; omega
            | false =>
              by_cases hty : t < yv
              · have I2 := Aside0.mk (ey ▸ ins_here IN.out hkl (ey ▸ hty))
                go_wp2_with (first
                  | ((with_reducible refine gate_builtin (b := .append) (xs := #[.tmp 83, .tmp 85]) rfl ?_); at_builtin; refine Kd.R_append (Kd.int .i64) (w0 := w3) w3.heap.size rfl (.tmp 83) (.tmp 85) 35 3 _ 8 rfl Tryz.underlying35 info_int rfl (by decide) (by omega) _ out t [.int .i64 t] (fun _ => True) (fun _ => False) rfl rfl rfl (fun _ h => h.elim) (fun _ _ => trivial) RO.out RB.out RB.out.size (by have h := LO.out; omega) ?_; intro v6 w6 ho hb hg hat; clear hg hat; have O6 := Aside0.mk ho; have B6 := Aside0.mk hb; clear ho hb; have L6 := Aside0.mk (show (out ++ [t]).length ≤ 2 * k + 1 from by rw [List.length_append]; have h := LO.out; simp; omega); have k6 := pw_cell_below B6.out KC.out; clear kc)
                  | ((with_reducible refine gate_builtin (b := .append) (xs := #[.tmp 87, .tmp 92]) rfl ?_); at_builtin; refine Kd.R_append (Kd.int .i64) (w0 := w3) w3.heap.size rfl (.tmp 87) (.tmp 92) 35 3 _ 8 rfl Tryz.underlying35 info_int rfl (by decide) (by omega) _ (out ++ [t]) yv [.int .i64 yv] (fun _ => True) (fun _ => False) rfl rfl rfl (fun _ h => h.elim) (fun _ _ => trivial) O6.out B6.out B6.out.size (by have h := L6.out; omega) ?_; intro v7 w7 ho hb hg hat; clear hg hat; have O7 := Aside0.mk ho; have B7 := Aside0.mk hb; clear ho hb))
                go_roundw
                case rel => exact ⟨k + 1, (out ++ [t]) ++ [yv], true, by omega, by go_num, rfl, I2, ⟨by rw [List.length_append]; have h := L6.out; simp only [List.length_cons, List.length_nil]; omega⟩, O7, B7⟩
                case measure => simp [intOf]; omega
              · have I2 := Aside0.mk (ey ▸ ins_pass IN.out hkl (ey ▸ hty))
                go_wp2_with ((with_reducible refine gate_builtin (b := .append) (xs := #[.tmp 87, .tmp 92]) rfl ?_); at_builtin; refine Kd.R_append (Kd.int .i64) (w0 := w3) w3.heap.size rfl (.tmp 87) (.tmp 92) 35 3 _ 8 rfl Tryz.underlying35 info_int rfl (by decide) (by omega) _ out yv [.int .i64 yv] (fun _ => True) (fun _ => False) rfl rfl rfl (fun _ h => h.elim) (fun _ _ => trivial) RO.out RB.out RB.out.size (by have h := LO.out; omega) ?_; intro v7 w7 ho hb hg hat; clear hg hat; have O7 := Aside0.mk ho; have B7 := Aside0.mk hb; clear ho hb)
                go_roundw
                case rel => exact ⟨k + 1, out ++ [yv], false, by omega, by go_num, rfl, I2, ⟨by rw [List.length_append]; have h := LO.out; simp only [List.length_cons, List.length_nil]; omega⟩, O7, B7⟩
                case measure => simp [intOf]; omega
          · obtain rfl : k = ws.length := by omega
            have hkl1 : ¬ (ws.length : Int) < (ws.length : Int) := by omega
            have hw40 : ws.length ≤ 40 := by have := WL.out; omega
            have SP := Aside0.mk (put_asc t ws SS.out.asc)
            have PP := Aside0.mk (show (l3.map (·.1)).Perm (put t ws) from ((P3.out.map _).trans (by rw [List.map_append]; exact (List.perm_append_singleton t _).trans (SS.out.perm.cons t))).trans (put_perm t ws).symm)
            have MP := Aside0.mk (show ∀ z ∈ put t ws, 0 ≤ z ∧ z ≤ 300 from fun z hz => (List.mem_cons.1 ((put_perm t ws).mem_iff.1 hz)).elim (fun e => by rw [e]; exact ⟨by have := HT.out.1.1; have := HX.out.1; omega, HT.out.2⟩) (SS.out.most z))
            have NL := Aside0.mk (show l3.length = i + 1 from by rw [P3.out.length_eq, List.length_append, SS.out.len]; rfl)
            cases dn with
            | true =>
              obtain rfl := ins_end IN.out
              have W4 := Aside0.mk (below_weaken (w0 := w) W3.out (by have := W3.out.size; omega) RB.out)
              go_wp2
              go_roundw
              case rel => exact ⟨i + 1, put t ws, v3, l3, by omega, by go_num, ⟨⟨(Q3.out.below RB.out).weak (fun z hz => hz.elim (fun h => by omega) (fun h => by rw [h]; show (i : Int) < _; omega)), NL.out, H3.out, Kd.R_lower RO.out W3.out.size, SP.out, PP.out, MP.out, W4.out⟩⟩⟩
              case measure => simp [intOf]; omega
            | false =>
              have I2 := Aside0.mk (ins_last IN.out)
              go_wp2_with ((with_reducible refine gate_builtin (b := .append) (xs := #[.tmp 96, .tmp 98]) rfl ?_); at_builtin; refine Kd.R_append (Kd.int .i64) (w0 := w3) w3.heap.size rfl (.tmp 96) (.tmp 98) 35 3 _ 8 rfl Tryz.underlying35 info_int rfl (by decide) (by omega) _ out t [.int .i64 t] (fun _ => True) (fun _ => False) rfl rfl rfl (fun _ h => h.elim) (fun _ _ => trivial) RO.out RB.out RB.out.size (by have h := LO.out; omega) ?_; intro v7 w7 ho hb hg hat; clear hg hat; have O7 := Aside0.mk ho; have B7 := Aside0.mk hb; clear ho hb)
              have W4 := Aside0.mk (below_weaken (w0 := w) W3.out (by have := W3.out.size; omega) B7.out)
              go_roundw
              case rel => exact ⟨i + 1, put t ws, v3, l3, by omega, by go_num, ⟨⟨(Q3.out.below B7.out).weak (fun z hz => hz.elim (fun h => by omega) (fun h => by rw [h]; show (i : Int) < _; omega)), NL.out, H3.out, Kd.R_lower (I2.out ▸ O7.out) W3.out.size, SP.out, PP.out, MP.out, W4.out⟩⟩⟩
              case measure => simp [intOf]; omega
      · obtain rfl : i = ts.length := by omega
        have hlt1 : ¬ (ts.length : Int) < (ts.length : Int) := by omega
        go_upto_region 27 with (fail)
        have CA := Aside0.mk (dAsk0 SS.out.rq)
        go_upto_region 30 with (go_at_call 7; (with_reducible refine CA.out.mono ?_); rintro e w3 ⟨rfl, hq, hb⟩; have Q3 := Aside0.mk hq; have B3 := Aside0.mk hb; clear hq hb)
        have GT := Aside0.mk (show Gt w w3 d (1 + a % 9) (1 + b % 9) (ts.length : Int) s0 s1 (fun z => z.2 < (ts.length : Int)) (.slice Au ws.length cu) ws 0 0 v l from
          { rq := Q3.out, heap := SS.out.heap, row := row_keep SS.out.row B3.out (row_apart SS.out.rq SS.out.row).2, perm := SS.out.perm, low := fun z hz => (SS.out.most z hz).1, top := by omega
            bel := But.below SS.out.bel B3.out SS.out.bel.size (fun k hk => Nat.le_trans D1.out (Zg_base SS.out.rq k hk)) })
        have AS := Aside0.mk (And.intro SS.out.asc SS.out.most)
        have hw40 : ws.length ≤ 40 := by have := WL.out; omega
        have W40 := Aside0.mk hw40
        clear SS Q3 B3 CA WL
        go_loopw [17] (fun v17 wr => ∃ (gt : Nat) (T : Int) (v : Value) (l : List Mg), gt ≤ ws.length ∧ v17 = .int .i64 gt ∧ Aside0 (Gt w wr d (1 + a % 9) (1 + b % 9) (ts.length : Int) s0 s1 (fun z => z.2 < (ts.length : Int)) (.slice Au ws.length cu) ws gt T v l)) (fun gt _ => ws.length - (intOf gt).toNat)
        case atStart => exact ⟨0, 0, v, l, by omega, rfl, GT⟩
        case round =>
          clear GT
          obtain ⟨gt, T, v', l', hg, rfl, GG⟩ := hrel
          have LL := Aside0.mk (show l'.length = ws.length - gt from by have h := GG.out.perm.length_eq; rwa [List.length_map, List.length_drop] at h)
          have CA := Aside0.mk (dAsk1 GG.out.rq GG.out.top)
          by_cases hgl : gt < ws.length
          · have hgl1 : (gt : Int) < (ws.length : Int) := by omega
            have hne : l' ≠ [] := fun e => by have h := LL.out; rw [e] at h; simp at h; omega
            have hpos : 0 < l'.length := List.length_pos_iff.2 hne
            obtain ⟨T2, hT2⟩ : ∃ T2, nT l' 1000 = T2 := ⟨_, rfl⟩
            have e2 : tt l' 0 = T2 := by rw [← hT2]; exact (if_neg hne).symm
            have hmem : T2 ∈ ws.drop gt := GG.out.perm.mem_iff.1 (by rw [← e2]; exact List.mem_map_of_mem (f := (·.1)) (by rw [g_lt hpos]; exact List.getElem_mem hpos : g l' 0 ∈ l'))
            have HT := Aside0.mk (show T ≤ T2 ∧ 0 ≤ T2 ∧ T2 ≤ 300 from ⟨GG.out.low T2 hmem, (AS.out.2 T2 (List.mem_of_mem_drop hmem)).1, (AS.out.2 T2 (List.mem_of_mem_drop hmem)).2⟩)
            have MN := Aside0.mk (show ∀ x ∈ l', T2 ≤ x.1 from fun x hx => by
              obtain ⟨j, hj, ej⟩ := tt_mem hx
              have := heap_min GG.out.heap j hj
              omega)
            have N0 := Aside0.mk (show nT l' 0 = T2 from by rw [← e2]; exact if_neg hne)
            have NP := Aside0.mk (nN_pos hne)
            have ML := Aside0.mk (show ∀ z ∈ ws.drop gt, T2 ≤ z from fun z hz => by
              obtain ⟨x, hx, ex⟩ := List.mem_map.1 (GG.out.perm.mem_iff.2 hz)
              rw [← ex]
              exact MN.out x hx)
            clear hmem e2 hpos hne
            go_upto_region 33 with (go_at_call 7; (with_reducible refine CA.out.mono ?_); rintro e w4 ⟨rfl, hq, hb⟩; have Q4 := Aside0.mk hq; have B4 := Aside0.mk hb; clear hq hb)
            have W4 := Aside0.mk (But.below GG.out.bel B4.out GG.out.bel.size (fun k hk => Nat.le_trans D1.out (Zg_base GG.out.rq k hk)))
            have U4 := Aside0.mk (row_keep GG.out.row B4.out (row_apart GG.out.rq GG.out.row).2)
            have cl := dLook Q4.out (by have := HX.out; omega) GG.out.heap (by have := LL.out; have := W40.out; omega) (by rw [hT2]; have := HT.out; omega) (by rw [hT2]; exact HT.out.1) GG.out.top
            unfold LookD GivenQ at cl
            rw [hT2, N0.out] at cl
            have CL := Aside0.mk cl
            clear cl hT2
            go_upto_region 34 with (go_at_call 8; (with_reducible refine CL.out.mono ?_); rintro e w5 ⟨vt, L, v5, l5, rfl, hq, hrow, hp, hs, hL, hh, hb, hv⟩; obtain ⟨At, ct, et⟩ := Kd.R_slice hrow; subst et; have Q5 := Aside0.mk hq; have O5 := Aside0.mk hrow; have P5 := Aside0.mk (And.intro hp (And.intro hs (And.intro hL hh))); have B5 := Aside0.mk hb; clear hq hrow hp hs hL hh hb hv)
            have TK := Aside0.mk (taken (AS.out.1.sublist (List.drop_sublist gt ws)) GG.out.perm P5.out.1 P5.out.2.1 MN.out)
            have LP := Aside0.mk (show 0 < L.length ∧ gt + L.length ≤ ws.length from ⟨by rw [P5.out.2.2.1]; exact NP.out, by have h := TK.out.2.2; rw [List.length_drop] at h; omega⟩)
            have WA := Aside0.mk (fun (k : Nat) (hk : k < L.length) => show ws.getD (gt + k) 0 = T2 from by rw [drop_at]; exact taken_at TK.out.1 k hk)
            have LA := Aside0.mk (fun (k : Nat) (hk : k < L.length) => show (g L k).1 = T2 from by rw [g_lt hk]; exact P5.out.2.1 _ (List.getElem_mem hk))
            have U5 := Aside0.mk (row_keep U4.out B5.out (row_apart Q4.out U4.out).1)
            have W5 := Aside0.mk (But.below W4.out B5.out W4.out.size (fun k hk => Nat.le_trans D1.out (Zs_base Q4.out k hk)))
            have N6 := Aside0.mk (blk_new w5 (.cells #[.slice none 0 0, .slice At L.length ct, .bool true, .int .i64 T2] 29 (0, 0)))
            have BA := Aside0.mk (show Below w5.heap.size w5 (w5.alloc (.cells #[.slice none 0 0, .slice At L.length ct, .bool true, .int .i64 T2] 29 (0, 0))) from below_alloc (Below.refl _ _) _)
            have W6 := Aside0.mk (show Below w.heap.size w (w5.alloc (.cells #[.slice none 0 0, .slice At L.length ct, .bool true, .int .i64 T2] 29 (0, 0))) from below_alloc W5.out _)
            have Q6 := Aside0.mk (Q5.out.below BA.out)
            have U6 := Aside0.mk (Kd.R_alloc U5.out (.cells #[.slice none 0 0, .slice At L.length ct, .bool true, .int .i64 T2] 29 (0, 0)))
            have C6 := Aside0.mk (Kd.C_below (Kd.R_reads' O5.out).2.2 BA.out)
            clear BA Q5 U5 O5 B5 W5 W4 B4 U4 Q4 CL CA MN N0 NP GG
            generalize (w5.alloc (.cells #[.slice none 0 0, .slice At L.length ct, .bool true, .int .i64 T2] 29 (0, 0))) = w6 at N6 W6 Q6 U6 C6 ⊢
            generalize w5.heap.size = g6 at N6 ⊢
            have m1 : w6.cell? ⟨g6, 1, none⟩ = some (.slice At L.length ct) := (blk_cell N6.out 1).trans rfl
            have m2 : w6.cell? ⟨g6, 2, none⟩ = some (.bool true) := (blk_cell N6.out 2).trans rfl
            have m3 : w6.cell? ⟨g6, 3, none⟩ = some (.int .i64 T2) := (blk_cell N6.out 3).trans rfl
            obtain ⟨adu, rfl, ku⟩ := i64_atA (Kd.R_reads' U6.out).2.2 hgl
            rw [show ws.getD gt 0 = T2 from WA.out 0 LP.out.1] at ku
            have hL0 : ((L.length : Int) == 0) = false := beq_false_of_ne (by have := LP.out.1; omega)
            go_quiet (fail)
            have N7 := Aside0.mk (blk_drewN N6.out nq)
            have W7 := Aside0.mk (pw_below_drewN W6.out nq)
            have BB := Aside0.mk (pw_below_drewN (Below.refl w6.heap.size w6) nq)
            have Q7 := Aside0.mk (Q6.out.below BB.out)
            have C7 := Aside0.mk (Kd.C_below C6.out BB.out)
            have U7 := Aside0.mk (row_keep U6.out (But.of_below BB.out) (fun _ _ h => h))
            clear N6 W6 Q6 U6 C6 BB m1 m2 m3 ku hL0
            generalize w6.drewN nq = w7 at N7 W7 Q7 U7 C7 ⊢
            go_upto_region 37 with (fail)
            go_loopw [17, 20] (fun v17 v20 wr => ∃ (k m : Nat), k ≤ L.length ∧ Aside0 (m = gt + k) ∧ v20 = .int .i64 k ∧ v17 = .int .i64 m ∧ Aside0 (Below w7.heap.size w7 wr)) (fun _ k _ => L.length - (intOf k).toNat)
            case atStart => exact ⟨0, gt, by omega, ⟨rfl⟩, rfl, rfl, ⟨Below.refl _ _⟩⟩
            case round =>
              obtain ⟨k, m, hk, HM, rfl, rfl, RB⟩ := hrel
              have m1 := pw_cell_below RB.out ((blk_cell N7.out 1).trans rfl : w7.cell? ⟨g6, 1, none⟩ = some (.slice At L.length ct))
              have m3 := pw_cell_below RB.out ((blk_cell N7.out 3).trans rfl : w7.cell? ⟨g6, 3, none⟩ = some (.int .i64 T2))
              by_cases hkl : k < L.length
              · have hkl1 : (k : Int) < (L.length : Int) := by omega
                have hgk : m < ws.length := by have := LP.out.2; have := HM.out; omega
                have hgk1 : ¬ (ws.length : Int) ≤ (m : Int) := by omega
                have hw40 : ws.length ≤ 40 := W40.out
                have hk40 : k ≤ 40 := by have := LP.out.2; omega
                have MG := Aside0.mk (show m + 1 = gt + (k + 1) from by have := HM.out; omega)
                obtain ⟨adm, rfl, c0, -, -, -, -, -⟩ := msg_at (Kd.C_below C7.out RB.out) hkl
                rw [LA.out k hkl] at c0
                obtain ⟨ad3, e3, ku⟩ := i64_atA (Kd.R_reads' U7.out).2.2 hgk
                injection e3 with e3
                subst e3
                rw [show ws.getD m 0 = T2 from by rw [HM.out]; exact WA.out k hkl] at ku
                replace ku := pw_cell_below RB.out ku
                go_upto_region 39 with (fail)
                go_quiet (fail)
                go_wp2
                go_roundw
                case rel => exact ⟨k + 1, m + 1, by omega, MG, by go_num, by go_num, ⟨pw_below_drewN RB.out nq⟩⟩
                case measure => simp [intOf]; omega
              · obtain rfl : k = L.length := by omega
                obtain rfl := HM.out
                have hkl1 : ¬ (L.length : Int) < (L.length : Int) := by omega
                have GT := Aside0.mk (show Gt w wr d (1 + a % 9) (1 + b % 9) (ts.length : Int) s0 s1 (fun z => z.2 < (ts.length : Int)) (.slice (some adu) ws.length cu) ws (gt + L.length) T2 v5 l5 from
                  { rq := Q7.out.below RB.out, heap := P5.out.2.2.2, row := row_keep U7.out (But.of_below RB.out) (fun _ _ h => h), perm := by have h := TK.out.2.1; rw [List.drop_drop] at h; exact h
                    low := fun z hz => ML.out z (by rw [← List.drop_drop] at hz; exact List.mem_of_mem_drop hz)
                    top := by have := HT.out; omega
                    bel := below_weaken (w0 := w) W7.out W7.out.size RB.out })
                go_wp2
                go_roundw
                case rel => exact ⟨gt + L.length, T2, v5, l5, LP.out.2, rfl, GT⟩
                case measure => simp [intOf]; have := LP.out; omega
          · obtain rfl : gt = ws.length := by omega
            have hgl1 : ¬ (ws.length : Int) < (ws.length : Int) := by omega
            obtain rfl : l' = [] := List.length_eq_zero_iff.1 (by have := LL.out; omega)
            go_upto_region 44 with (go_at_call 7; (with_reducible refine CA.out.mono ?_); rintro e w4 ⟨rfl, hq, hb⟩; have Q4 := Aside0.mk hq; have B4 := Aside0.mk hb; clear hq hb)
            have W4 := Aside0.mk (But.below GG.out.bel B4.out GG.out.bel.size (fun k hk => Nat.le_trans D1.out (Zg_base GG.out.rq k hk)))
            have cl := dLook Q4.out (by have := HX.out; omega) GG.out.heap (by simp) (show (1000 : Int) ≤ 1000 by decide) GG.out.top GG.out.top
            unfold LookD GivenQ at cl
            rw [show nT [] 1000 = 1000 from rfl, show nN [] = 0 from rfl] at cl
            have CL := Aside0.mk cl
            clear cl
            go_upto_region 45 with (go_at_call 8; (with_reducible refine CL.out.mono ?_); rintro e w5 ⟨vt, L, v5, l5, rfl, hq, hrow, hp, hs, hL, hh, hb, hv⟩; obtain rfl := List.length_eq_zero_iff.1 hL; obtain ⟨At, ct, et⟩ := Kd.R_slice hrow; subst et; have B5 := Aside0.mk hb; clear hq hrow hp hs hL hh hb hv)
            have W5 := Aside0.mk (But.below W4.out B5.out W4.out.size (fun k hk => Nat.le_trans D1.out (Zs_base Q4.out k hk)))
            have N6 := Aside0.mk (blk_new w5 (.cells #[.slice none 0 0, .slice At 0 ct, .bool true, .int .i64 1000] 29 (0, 0)))
            have W6 := Aside0.mk (show Below w.heap.size w (w5.alloc (.cells #[.slice none 0 0, .slice At 0 ct, .bool true, .int .i64 1000] 29 (0, 0))) from below_alloc W5.out _)
            generalize (w5.alloc (.cells #[.slice none 0 0, .slice At 0 ct, .bool true, .int .i64 1000] 29 (0, 0))) = w6 at N6 W6 ⊢
            generalize w5.heap.size = g6 at N6 ⊢
            have m1 : w6.cell? ⟨g6, 1, none⟩ = some (.slice At 0 ct) := (blk_cell N6.out 1).trans rfl
            have m2 : w6.cell? ⟨g6, 2, none⟩ = some (.bool true) := (blk_cell N6.out 2).trans rfl
            have m3 : w6.cell? ⟨g6, 3, none⟩ = some (.int .i64 1000) := (blk_cell N6.out 3).trans rfl
            go_wp2
            go_ret
            exact ⟨by simp, W6.out⟩
end Go.Proofs.YtaaaocckfnlgdaaGreatDoorT
