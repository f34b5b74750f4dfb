import Derived.Test.YtaaaocckfnlgdaaGreatDoorQC
import Derived.Deep.QuietTactic
import Derived.BigQuiet
/- A queue: Push, First, Len. Printed by wip/top/mkqueue.py. -/
namespace Go.Proofs.YtaaaocckfnlgdaaGreatDoorT
open Go.RowKit Go.Sort Go.Proofs.YtaaaocckfnlgdaaGreatDoorW.PrintWords Go.Proofs.YtaaaocckfnlgdaaGreatDoorW.PrintLast Go.Proofs.YtaaaocckfnlgdaaGreatDoorW.PrintMore Go.Proofs.YtaaaocckfnlgdaaGreatDoor.PBase Go.Proofs.YtaaaocckfnlgdaaGreatDoorH Go.Proofs.YtaaaocckfnlgdaaGreatDoorK
set_option maxRecDepth 100000
set_option linter.unusedVariables false
set_option linter.unusedSimpArgs false
section
variable {w : World} {q r b : Nat} {v : Value} {l : List Mg} {p : Mg → Prop}
set_option maxHeartbeats 1000000 in
theorem qlen_calls (H : Qu w q r b v l p) : Calls Tryz.prog 26 #[.pointer (some ⟨q, 0, none⟩)] w fun e w' => e = .returned (.int .i64 (l.length : Int)) ∧ w' = w := by
  obtain ⟨A, c, rfl⟩ := Kd.R_slice H.row
  have k1 : w.cell? ⟨q, 1, none⟩ = some (.slice A l.length c) := (blk_cell H.blk 1).trans rfl
  clear H
  go_enter Tryz.func26, Tryz.ntmps26
  go_wp2
  go_ret
  exact ⟨rfl, rfl⟩
set_option maxHeartbeats 2000000 in
theorem qfirst_calls (H : Qu w q r b v l p) (h0 : 0 < l.length) : Calls Tryz.prog 52 #[.pointer (some ⟨q, 0, none⟩)] w fun e w' => e = .returned (.tuple #[mvv (g l 0), .bool true]) ∧ Below w.heap.size w w' := by
  obtain ⟨gb, c, hv, -⟩ := H.at 0 h0
  have B1 := Aside0.mk (show Below w.heap.size w (w.alloc (.cells #[.int .i64 0, .int .i64 0, .int .i64 0, .int .i64 0, .int .i64 0, .int .i64 0] 41 (0, 0))) from below_alloc (Below.refl _ _) _)
  have H1 := H.below B1.out
  have N0 := Aside0.mk (blk_new w (.cells #[.int .i64 0, .int .i64 0, .int .i64 0, .int .i64 0, .int .i64 0, .int .i64 0] 41 (0, 0)))
  obtain ⟨i0, i1, i2, i3, i4, i5⟩ := H1.six 0 h0 hv
  have k1 := (blk_cell H1.blk 1).trans rfl
  subst hv
  have hl0 : ¬ (l.length : Int) = 0 := by omega
  have hl1 : (0 : Int) < (l.length : Int) := by omega
  rw [Nat.zero_mul] at i0 i1 i2 i3 i4 i5
  generalize g l 0 = x at i0 i1 i2 i3 i4 i5 ⊢
  clear H H1
  unfold mvv
  go_enter Tryz.func52, Tryz.ntmps52
  simp only [Nat.zero_add] at i1 i2 i3 i4 i5
  go_wp2
  (try simp only [Exit.inBlock, Exit.then])
  refine bodyPost_ret (results_list (rs := [.cell 2 41, .tmp 3]) rfl (by simp) (.cell w.heap.size 41 #[.int .i64 x.1, .int .i64 0, .int .i64 x.2, .int .i64 1, .int .i64 0, .int .i64 x.2] (0, 0) _ rfl (blk_new w _) Tryz.underlying41 rfl (by kernel_rfl) (.tmp .nil))) rfl ?_
  exact ⟨rfl, below_alloc (Below.refl _ w) _⟩
set_option maxHeartbeats 4000000 in
theorem qpush_calls (H : Qu w q r b v l p) (hb : b ≤ w.heap.size) (hl : l.length < 64) (hh : HeapN l l.length) (x : Mg) (hx : ∀ y, p y → y ≠ x) : Calls Tryz.prog 29 #[.pointer (some ⟨q, 0, none⟩), mvv x] w fun e w' => e = .returned (.int .i64 0) ∧ ∃ v' l', Qu w' q r b v' l' (fun y => p y ∨ y = x) ∧ l'.Perm (l ++ [x]) ∧ HeapN l' l'.length ∧ But (Zq q r v) w w' ∧ (v'.ownBlock = v.ownBlock ∨ ∃ k, v'.ownBlock = some k ∧ w.heap.size ≤ k) := by
  have NX := Aside0.mk hx
  have HL := Aside0.mk hl
  have HH := Aside0.mk hh
  obtain ⟨A, c, hv⟩ := Kd.R_slice H.row
  have B1 := Aside0.mk (show Below w.heap.size w (w.alloc (.cells #[.int .i64 x.1, .int .i64 0, .int .i64 x.2, .int .i64 1, .int .i64 0, .int .i64 x.2] 41)) from below_alloc (Below.refl _ _) _)
  have H1 := Aside0.mk (H.below B1.out)
  have N0 := Aside0.mk (blk_new w (.cells #[.int .i64 x.1, .int .i64 0, .int .i64 x.2, .int .i64 1, .int .i64 0, .int .i64 x.2] 41))
  have HB := Aside0.mk (show b ≤ (w.alloc (.cells #[.int .i64 x.1, .int .i64 0, .int .i64 x.2, .int .i64 1, .int .i64 0, .int .i64 x.2] 41)).heap.size from Nat.le_trans hb B1.out.size)
  clear H hb hl hh hx
  unfold mvv
  go_enter Tryz.func29, Tryz.ntmps29
  go_upto_region 1 with (fail)
  generalize (w.alloc (.cells #[.int .i64 x.1, .int .i64 0, .int .i64 x.2, .int .i64 1, .int .i64 0, .int .i64 x.2] 41)) = W at B1 H1 N0 HB ⊢
  generalize hg0 : w.heap.size = g0 at N0 ⊢
  have HE := Aside0.mk hg0
  clear hg0
  have k2 : W.cell? ⟨q, 2, none⟩ = some (.map (some r)) := (blk_cell H1.out.blk 2).trans rfl
  have m0 : W.cell? ⟨g0, 0, none⟩ = some (.int .i64 x.1) := (blk_cell N0.out 0).trans rfl
  have m1 : W.cell? ⟨g0, 1, none⟩ = some (.int .i64 0) := (blk_cell N0.out 1).trans rfl
  have m2 : W.cell? ⟨g0, 2, none⟩ = some (.int .i64 x.2) := (blk_cell N0.out 2).trans rfl
  refine Till.begin (fun w' => w'.cell? ⟨q, 2, none⟩ = some (.map (some r)) ∧ w'.cell? ⟨g0, 0, none⟩ = some (.int .i64 x.1) ∧ w'.cell? ⟨g0, 1, none⟩ = some (.int .i64 0) ∧ w'.cell? ⟨g0, 2, none⟩ = some (.int .i64 x.2) ∧ Aside0 (MapOk w' r p)) (fun _ => True) [] (by kernel_rfl) ?_
  have hS : (fun w' => w'.cell? ⟨q, 2, none⟩ = some (.map (some r)) ∧ w'.cell? ⟨g0, 0, none⟩ = some (.int .i64 x.1) ∧ w'.cell? ⟨g0, 1, none⟩ = some (.int .i64 0) ∧ w'.cell? ⟨g0, 2, none⟩ = some (.int .i64 x.2) ∧ Aside0 (MapOk w' r p)) W.drew := ⟨k2, m0, m1, m2, ⟨H1.out.drew.map⟩⟩
  refine Till.takeS 0 (v := ?_) rfl (by kernel_rfl) (by kernel_rfl) (by kernel_rfl) (fun _ _ _ h => h) (Or.inl ⟨by rfl, ?_⟩) hS ?_
  rotate_left; · (intro w hSw; (try dsimp only at hSw); go_simp; try with_reducible rfl)
  try simp only [Act.put, List.setIfInBounds_toArray, List.set_cons_zero, List.set_cons_succ]
  refine Till.takeS 1 (v := ?_) rfl (by kernel_rfl) (by kernel_rfl) (by kernel_rfl) (fun _ _ _ h => h) (Or.inl ⟨by rfl, ?_⟩) hS ?_
  rotate_left; · (intro w hSw; (try dsimp only at hSw); go_simp; try with_reducible rfl)
  try simp only [Act.put, List.setIfInBounds_toArray, List.set_cons_zero, List.set_cons_succ]
  refine Till.takeS 2 (v := ?_) rfl (by kernel_rfl) (by kernel_rfl) (by kernel_rfl) (fun _ _ _ h => h) (Or.inl ⟨by rfl, ?_⟩) hS ?_
  rotate_left; · (intro w hSw; (try dsimp only at hSw); go_simp; try with_reducible rfl)
  try simp only [Act.put, List.setIfInBounds_toArray, List.set_cons_zero, List.set_cons_succ]
  refine Till.takeS 3 (v := ?_) rfl (by kernel_rfl) (by kernel_rfl) (by kernel_rfl) (fun _ _ _ h => h) (Or.inl ⟨by rfl, ?_⟩) hS ?_
  rotate_left; · (intro w hSw; (try dsimp only at hSw); go_simp; try with_reducible rfl)
  try simp only [Act.put, List.setIfInBounds_toArray, List.set_cons_zero, List.set_cons_succ]
  refine Till.takeS 4 (v := ?_) rfl (by kernel_rfl) (by kernel_rfl) (by kernel_rfl) (fun _ _ _ h => h) (Or.inl ⟨by rfl, ?_⟩) hS ?_
  rotate_left; · (intro w hSw; (try dsimp only at hSw); go_simp; try with_reducible rfl)
  try simp only [Act.put, List.setIfInBounds_toArray, List.set_cons_zero, List.set_cons_succ]
  refine Till.takeS 5 (v := ?_) rfl (by kernel_rfl) (by kernel_rfl) (by kernel_rfl) (fun _ _ _ h => h) (Or.inl ⟨by rfl, ?_⟩) hS ?_
  rotate_left; · (intro w hSw; (try dsimp only at hSw); go_simp; try with_reducible rfl)
  try simp only [Act.put, List.setIfInBounds_toArray, List.set_cons_zero, List.set_cons_succ]
  refine Till.takeS 6 (v := ?_) rfl (by kernel_rfl) (by kernel_rfl) (by kernel_rfl) (fun _ _ _ h => h) (Or.inl ⟨by rfl, ?_⟩) hS ?_
  rotate_left; · (intro w hSw; have hlk := run_lookup_no hSw.2.2.2.2.out x NX.out; simp only [kv] at hlk; go_simp; try with_reducible rfl)
  try simp only [Act.put, List.setIfInBounds_toArray, List.set_cons_zero, List.set_cons_succ]
  refine Till.takeS 7 (v := ?_) rfl (by kernel_rfl) (by kernel_rfl) (by kernel_rfl) (fun _ _ _ h => h) (Or.inl ⟨by rfl, ?_⟩) hS ?_
  rotate_left; · (intro w hSw; (try dsimp only at hSw); go_simp; try with_reducible rfl)
  try simp only [Act.put, List.setIfInBounds_toArray, List.set_cons_zero, List.set_cons_succ]
  refine Till.takeS 8 (v := ?_) rfl (by kernel_rfl) (by kernel_rfl) (by kernel_rfl) (fun _ _ _ h => h) (Or.inl ⟨by rfl, ?_⟩) hS ?_
  rotate_left; · (intro w hSw; (try dsimp only at hSw); go_simp; try with_reducible rfl)
  try simp only [Act.put, List.setIfInBounds_toArray, List.set_cons_zero, List.set_cons_succ]
  refine Till.takeS 10 (v := ?_) rfl (by kernel_rfl) (by kernel_rfl) (by kernel_rfl) (fun _ _ _ h => h) (Or.inl ⟨by rfl, ?_⟩) hS ?_
  rotate_left; · (intro w hSw; (try dsimp only at hSw); go_simp; try with_reducible rfl)
  try simp only [Act.put, List.setIfInBounds_toArray, List.set_cons_zero, List.set_cons_succ]
  refine Till.takeS 9 (v := ?_) rfl (by kernel_rfl) (by kernel_rfl) (by kernel_rfl) (fun _ _ _ h => h) (Or.inl ⟨by rfl, ?_⟩) hS ?_
  rotate_left; · (intro w hSw; (try dsimp only at hSw); go_simp; try with_reducible rfl)
  try simp only [Act.put, List.setIfInBounds_toArray, List.set_cons_zero, List.set_cons_succ]
  refine Till.takeS 11 (v := ?_) rfl (by kernel_rfl) (by kernel_rfl) (by kernel_rfl) (fun _ _ _ h => h) (Or.inl ⟨by rfl, ?_⟩) hS ?_
  rotate_left; · (intro w hSw; (try dsimp only at hSw); go_simp; try with_reducible rfl)
  try simp only [Act.put, List.setIfInBounds_toArray, List.set_cons_zero, List.set_cons_succ]
  refine Till.done (by kernel_rfl) ?_
  have H2 := Aside0.mk H1.out.drew
  have N2 := Aside0.mk (blk_drew N0.out)
  have B2 := Aside0.mk (below_drew B1.out)
  have HB2 := Aside0.mk (show b ≤ W.drew.heap.size from HB.out)
  clear H1 N0 B1 HB k2 m0 m1 m2 hS
  generalize W.drew = W2 at H2 N2 B2 HB2 ⊢
  go_upto_region 4 with (fail)
  have k0 : W2.cell? ⟨q, 0, none⟩ = some (.int .i64 64) := (blk_cell H2.out.blk 0).trans rfl
  have k1 : W2.cell? ⟨q, 1, none⟩ = some (.slice A l.length c) := ((blk_cell H2.out.blk 1).trans rfl).trans (congrArg some hv)
  have hl64 : ¬ (64 : Int) ≤ (l.length : Int) := by have := HL.out; omega
  go_quiet (fail)
  have H3 := Aside0.mk (H2.out.below (pw_below_drewN (Below.refl _ _) nq))
  have N3 := Aside0.mk (blk_drewN N2.out nq)
  have B3 := Aside0.mk (show Below w.heap.size w (W2.drewN nq) from pw_below_drewN B2.out nq)
  have HB3 := Aside0.mk (show b ≤ (W2.drewN nq).heap.size from HB2.out)
  clear H2 N2 B2 HB2 k0 k1 hl64
  generalize W2.drewN nq = W3 at H3 N3 B3 HB3 ⊢
  have H4 := Aside0.mk (show Qu W3 q r b v l (fun y => p y ∨ y = x) from { blk := H3.out.blk, row := H3.out.row, map := H3.out.map.mono (fun y hy => Or.inl hy), all := fun y hy => Or.inl (H3.out.all y hy) })
  have cp := hpush_calls H4.out HB3.out (by have := HL.out; omega) HH.out x (Or.inr rfl)
  unfold fv mvv at cp
  have CP := Aside0.mk cp
  clear cp
  have m0 : W3.cell? ⟨g0, 0, none⟩ = some (.int .i64 x.1) := (blk_cell N3.out 0).trans rfl
  have m1 : W3.cell? ⟨g0, 1, none⟩ = some (.int .i64 0) := (blk_cell N3.out 1).trans rfl
  have m2 : W3.cell? ⟨g0, 2, none⟩ = some (.int .i64 x.2) := (blk_cell N3.out 2).trans rfl
  have m3 : W3.cell? ⟨g0, 3, none⟩ = some (.int .i64 1) := (blk_cell N3.out 3).trans rfl
  have m4 : W3.cell? ⟨g0, 4, none⟩ = some (.int .i64 0) := (blk_cell N3.out 4).trans rfl
  have m5 : W3.cell? ⟨g0, 5, none⟩ = some (.int .i64 x.2) := (blk_cell N3.out 5).trans rfl
  go_wp2_with (go_at_call 53; (with_reducible refine CP.out.mono ?_); rintro e w5 ⟨rfl, v5, l5, hq, hp, hh, hb, hv⟩; have Q5 := Aside0.mk hq; have P5 := Aside0.mk hp; have E5 := Aside0.mk hh; have B5 := Aside0.mk hb; have V5 := Aside0.mk hv; clear hq hp hh hb hv)
  go_ret
  exact ⟨rfl, v5, l5, Q5.out, P5.out, E5.out, (But.of_below B3.out).trans B5.out, V5.out.imp id (fun ⟨k, h1, h2⟩ => ⟨k, h1, Nat.le_trans B3.out.size h2⟩)⟩
end
end Go.Proofs.YtaaaocckfnlgdaaGreatDoorT
/- container/heap over a queue: down, Pop; a queue's Pop. Printed by wip/top/mkdown.py. -/
namespace Go.Proofs.YtaaaocckfnlgdaaGreatDoorT
open Go.RowKit Go.Sort Go.Proofs.YtaaaocckfnlgdaaGreatDoorW.PrintWords Go.Proofs.YtaaaocckfnlgdaaGreatDoorW.PrintLast Go.Proofs.YtaaaocckfnlgdaaGreatDoorW.PrintMore Go.Proofs.YtaaaocckfnlgdaaGreatDoor.PBase Go.Proofs.YtaaaocckfnlgdaaGreatDoorH Go.Proofs.YtaaaocckfnlgdaaGreatDoorK
set_option maxRecDepth 100000
set_option linter.unusedVariables false
set_option linter.unusedSimpArgs false
section
variable {w : World} {q r b : Nat} {v : Value} {l : List Mg} {p : Mg → Prop}
def IsBool (e : Ending) : Prop := ∃ bb, e = .returned (.bool bb)
theorem isBool (bb : Bool) : IsBool (.returned (.bool bb)) := ⟨bb, rfl⟩
/-- What holds as a message sinks. -/
structure Dn (w wr : World) (q r b : Nat) (v : Value) (l l' : List Mg) (p : Mg → Prop) (k n : Nat) : Prop where
  qu : Qu wr q r b v l' p
  perm : l'.Perm l
  heap : HeapDn l' k n
  rest : ∀ i, n ≤ i → g l' i = g l i
  but : But (Zq q r v) w wr
theorem Dn.below {w wr w2 : World} {l' : List Mg} {k n : Nat} (H : Dn w wr q r b v l l' p k n) (h : Below wr.heap.size wr w2) : Dn w w2 q r b v l l' p k n :=
  { H with qu := H.qu.below h, but := H.but.then_ h }
theorem Dn.step {w wr w2 : World} {l' : List Mg} {k n c : Nat} (H : Dn w wr q r b v l l' p k n) (hq : Qu w2 q r b v (sw l' k c) p) (hb : But (Zq q r v) wr w2) (hn : n ≤ l'.length) (hc : c < n) (hck : (c - 1) / 2 = k) (c0 : 0 < c)
    (hmin : ∀ i, 0 < i → i < n → (i - 1) / 2 = k → tt l' c ≤ tt l' i) (hlt : tt l' c ≤ tt l' k) : Dn w w2 q r b v l (sw l' k c) p c n :=
  { qu := hq
    perm := (sw_perm l' k c (by omega) (by omega)).trans H.perm
    heap := dn_step H.heap hn hc hck c0 hmin hlt
    rest := fun i hi => by rw [sw_g l' k c i (by omega) (by omega), if_neg (by omega), if_neg (by omega)]; exact H.rest i hi
    but := H.but.trans hb }
set_option maxHeartbeats 8000000 in
theorem down_calls (H : Qu w q r b v l p) (n : Nat) (hn : n ≤ l.length) (hs : l.length ≤ 1000) (hd : HeapDn l 0 n) :
    Calls Tryz.prog 70 #[fv q, .int .i64 0, .int .i64 (n : Int)] w fun e w' => IsBool e ∧ ∃ l', Qu w' q r b v l' p ∧ l'.Perm l ∧ HeapN l' n ∧ (∀ i, n ≤ i → g l' i = g l i) ∧ But (Zq q r v) w w' := by
  have D0 := Aside0.mk (show Dn w w q r b v l l p 0 n from ⟨H, List.Perm.refl _, hd, fun _ _ => rfl, But.refl _ _⟩)
  clear H hd
  go_enter Tryz.func70, Tryz.ntmps70
  unfold fv
  have ml := meth_less q
  have ms := meth_swap q
  go_wp2
  go_loopw [7] (fun v7 wr => ∃ (k : Nat) (l' : List Mg), v7 = .int .i64 k ∧ k ≤ n ∧ Aside0 (Dn w wr q r b v l l' p k n)) (fun k _ => n - (intOf k).toNat)
  case atStart => exact ⟨0, l, rfl, by omega, D0⟩
  case round =>
    obtain ⟨k, l', rfl, hk, DR⟩ := hrel
    have hlen := Aside0.mk (DR.out.perm.length_eq)
    have hk1000 : k ≤ 1000 := by omega
    obtain ⟨c1, hc1⟩ : ∃ c1, c1 = 2 * k + 1 := ⟨_, rfl⟩
    obtain ⟨c2, hc2⟩ : ∃ c2, c2 = c1 + 1 := ⟨_, rfl⟩
    have e1 : 2 * (k : Int) + 1 = (c1 : Int) := by omega
    have e2 : (c1 : Int) + 1 = (c2 : Int) := by omega
    have hw1 : wrap64 (2 * (k : Int)) = 2 * (k : Int) := by unfold wrap64; omega
    have hw2 : wrap64 (c1 : Int) = (c1 : Int) := by unfold wrap64; omega
    have hw3 : wrap64 (c2 : Int) = (c2 : Int) := by unfold wrap64; omega
    have HC := Aside0.mk (And.intro hc1 hc2)
    have h0 : ¬ (c1 : Int) < 0 := by omega
    by_cases hA : n ≤ c1
    · have hA1 : (n : Int) ≤ (c1 : Int) := by omega
      have HA := Aside0.mk hA
      clear hA hc1 hc2
      go_wp2
      go_ret
      exact ⟨isBool _, l', DR.out.qu, DR.out.perm, dn_stop DR.out.heap (fun i a b c => by have := HC.out.1; have := HA.out; omega), DR.out.rest, DR.out.but⟩
    · have hA1 : ¬ (n : Int) ≤ (c1 : Int) := by omega
      have HA := Aside0.mk hA
      have CS := Aside0.mk (fun (c : Nat) (hc : c < n) W (hW : Below wr.heap.size wr W) => fswap_calls (DR.out.qu.below hW) k c (by have := hlen.out; omega) (by have := hlen.out; omega))
      have CL := Aside0.mk (fun (c d : Nat) (hc : c < n) (hd : d < n) W (hW : Below wr.heap.size wr W) => fless_calls (DR.out.qu.below hW) c d (by have := hlen.out; omega) (by have := hlen.out; omega))
      have HN := Aside0.mk (show n ≤ l'.length ∧ k < n ∧ c1 < n from by have := hlen.out; omega)
      by_cases hB : c2 < n
      · have hB1 : (c2 : Int) < (n : Int) := by omega
        cases hf : klt (g l' c2) (g l' c1) with
        | true =>
          have CF := Aside0.mk (CL.out c2 c1 hB HN.out.2.2 _ (Below.refl _ _))
          rw [hf] at CF
          have MN := Aside0.mk (show ∀ i, 0 < i → i < n → (i - 1) / 2 = k → tt l' c2 ≤ tt l' i from fun i a b d => by
            have h := klt_yes hf
            rcases (show i = c1 ∨ i = c2 by have := HC.out.1; have := HC.out.2; omega) with e | e
            · rw [e]; exact h
            · rw [e]; exact Int.le_refl _)
          have CK := Aside0.mk (fun W hW => CL.out c2 k hB HN.out.2.1 W hW)
          have HX := Aside0.mk (show c2 < n ∧ k < c2 from ⟨hB, by omega⟩)
          have tok : True := trivial
          clear hc1 hc2 hA hB hf
          cases hk2 : klt (g l' c2) (g l' k) with
          | false =>
            rw [hk2] at CK
            go_wp2_with (first | (have _t := tok; go_at_call 116; (with_reducible refine CF.out.mono ?_); rintro e w4 ⟨rfl, hb⟩; have B4 := Aside0.mk hb; clear hb; clear tok) | (go_at_call 116; (with_reducible refine (CK.out _ B4.out).mono ?_); rintro e w5 ⟨rfl, hb⟩; have B5 := Aside0.mk (below_step B4.out hb); clear hb))
            go_ret
            exact ⟨isBool _, l', (DR.out.below B5.out).qu, DR.out.perm, dn_stop DR.out.heap (fun i a b d => Int.le_trans (klt_no hk2) (MN.out i a b d)), DR.out.rest, (DR.out.below B5.out).but⟩
          | true =>
            rw [hk2] at CK
            go_wp2_with (first | (have _t := tok; go_at_call 116; (with_reducible refine CF.out.mono ?_); rintro e w4 ⟨rfl, hb⟩; have B4 := Aside0.mk hb; clear hb; clear tok) | (go_at_call 116; (with_reducible refine (CK.out _ B4.out).mono ?_); rintro e w5 ⟨rfl, hb⟩; have B5 := Aside0.mk (below_step B4.out hb); clear hb) | (go_at_call 119; (with_reducible refine (CS.out c2 (by have := HX.out; omega) _ B5.out).mono ?_); rintro e w6 ⟨rfl, hq, hb⟩; have D6 := Aside0.mk (Dn.step (DR.out.below B5.out) hq hb HN.out.1 (by have := HX.out; omega) (by have := HC.out.1; have := HC.out.2; omega) (by have := HC.out.1; have := HC.out.2; omega) MN.out (klt_yes hk2)); clear hq hb))
            go_roundw
            case rel => exact ⟨c2, sw l' k c2, rfl, by have := HX.out; omega, D6⟩
            case measure => simp [intOf]; have := HX.out; have := HC.out.1; have := HC.out.2; omega
        | false =>
          have CF := Aside0.mk (CL.out c2 c1 hB HN.out.2.2 _ (Below.refl _ _))
          rw [hf] at CF
          have MN := Aside0.mk (show ∀ i, 0 < i → i < n → (i - 1) / 2 = k → tt l' c1 ≤ tt l' i from fun i a b d => by
            have h := klt_no hf
            rcases (show i = c1 ∨ i = c2 by have := HC.out.1; have := HC.out.2; omega) with e | e
            · rw [e]; exact Int.le_refl _
            · rw [e]; exact h)
          have CK := Aside0.mk (fun W hW => CL.out c1 k HN.out.2.2 HN.out.2.1 W hW)
          have HX := Aside0.mk (show c1 < n ∧ k < c1 from ⟨HN.out.2.2, by omega⟩)
          have tok : True := trivial
          clear hc1 hc2 hA hB hf
          cases hk2 : klt (g l' c1) (g l' k) with
          | false =>
            rw [hk2] at CK
            go_wp2_with (first | (have _t := tok; go_at_call 116; (with_reducible refine CF.out.mono ?_); rintro e w4 ⟨rfl, hb⟩; have B4 := Aside0.mk hb; clear hb; clear tok) | (go_at_call 116; (with_reducible refine (CK.out _ B4.out).mono ?_); rintro e w5 ⟨rfl, hb⟩; have B5 := Aside0.mk (below_step B4.out hb); clear hb))
            go_ret
            exact ⟨isBool _, l', (DR.out.below B5.out).qu, DR.out.perm, dn_stop DR.out.heap (fun i a b d => Int.le_trans (klt_no hk2) (MN.out i a b d)), DR.out.rest, (DR.out.below B5.out).but⟩
          | true =>
            rw [hk2] at CK
            go_wp2_with (first | (have _t := tok; go_at_call 116; (with_reducible refine CF.out.mono ?_); rintro e w4 ⟨rfl, hb⟩; have B4 := Aside0.mk hb; clear hb; clear tok) | (go_at_call 116; (with_reducible refine (CK.out _ B4.out).mono ?_); rintro e w5 ⟨rfl, hb⟩; have B5 := Aside0.mk (below_step B4.out hb); clear hb) | (go_at_call 119; (with_reducible refine (CS.out c1 (by have := HX.out; omega) _ B5.out).mono ?_); rintro e w6 ⟨rfl, hq, hb⟩; have D6 := Aside0.mk (Dn.step (DR.out.below B5.out) hq hb HN.out.1 (by have := HX.out; omega) (by have := HC.out.1; have := HC.out.2; omega) (by have := HC.out.1; have := HC.out.2; omega) MN.out (klt_yes hk2)); clear hq hb))
            go_roundw
            case rel => exact ⟨c1, sw l' k c1, rfl, by have := HX.out; omega, D6⟩
            case measure => simp [intOf]; have := HX.out; have := HC.out.1; have := HC.out.2; omega
      · have hB1 : ¬ (c2 : Int) < (n : Int) := by omega
        have MN := Aside0.mk (show ∀ i, 0 < i → i < n → (i - 1) / 2 = k → tt l' c1 ≤ tt l' i from fun i a b d => by
          rw [show i = c1 by have := HC.out.1; have := HC.out.2; omega]
          exact Int.le_refl _)
        have CK := Aside0.mk (fun W hW => CL.out c1 k HN.out.2.2 HN.out.2.1 W hW)
        have HX := Aside0.mk (show c1 < n ∧ k < c1 from ⟨HN.out.2.2, by omega⟩)
        clear hc1 hc2 hA hB
        cases hk2 : klt (g l' c1) (g l' k) with
        | false =>
          rw [hk2] at CK
          go_wp2_with (first | (go_at_call 116; (with_reducible refine (CK.out _ (Below.refl _ _)).mono ?_); rintro e w5 ⟨rfl, hb⟩; have B5 := Aside0.mk (hb); clear hb))
          go_ret
          exact ⟨isBool _, l', (DR.out.below B5.out).qu, DR.out.perm, dn_stop DR.out.heap (fun i a b d => Int.le_trans (klt_no hk2) (MN.out i a b d)), DR.out.rest, (DR.out.below B5.out).but⟩
        | true =>
          rw [hk2] at CK
          go_wp2_with (first | (go_at_call 116; (with_reducible refine (CK.out _ (Below.refl _ _)).mono ?_); rintro e w5 ⟨rfl, hb⟩; have B5 := Aside0.mk (hb); clear hb) | (go_at_call 119; (with_reducible refine (CS.out c1 (by have := HX.out; omega) _ B5.out).mono ?_); rintro e w6 ⟨rfl, hq, hb⟩; have D6 := Aside0.mk (Dn.step (DR.out.below B5.out) hq hb HN.out.1 (by have := HX.out; omega) (by have := HC.out.1; have := HC.out.2; omega) (by have := HC.out.1; have := HC.out.2; omega) MN.out (klt_yes hk2)); clear hq hb))
          go_roundw
          case rel => exact ⟨c1, sw l' k c1, rfl, by have := HX.out; omega, D6⟩
          case measure => simp [intOf]; have := HX.out; have := HC.out.1; have := HC.out.2; omega
end
end Go.Proofs.YtaaaocckfnlgdaaGreatDoorT
