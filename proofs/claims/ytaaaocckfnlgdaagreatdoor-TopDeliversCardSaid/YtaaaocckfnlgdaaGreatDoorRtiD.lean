/- Regulate. -/
import Derived.Test.YtaaaocckfnlgdaaGreatDoorRtiB
namespace Go.Proofs.YtaaaocckfnlgdaaGreatDoorT
open Go.RowKit Go.Proofs.YtaaaocckfnlgdaaGreatDoorW.PrintWords Go.Proofs.YtaaaocckfnlgdaaGreatDoorW.PrintLast Go.Proofs.YtaaaocckfnlgdaaGreatDoorW.PrintMore Go.Proofs.YtaaaocckfnlgdaaGreatDoor.PBase
set_option maxRecDepth 100000
set_option linter.unusedVariables false
set_option linter.unusedSimpArgs false
theorem add_zero_look (look : Int) (h1 : 1 ≤ look) (h2 : look ≤ 1048576) : vtime_Add.f 0 look = some look := by
  have e : ∀ n : Int, 0 ≤ n → n ≤ 1048576 → vtime_clamp.f n = some n := fun n a b => by
    unfold vtime_clamp.f
    rw [if_neg (by omega), if_neg (by omega)]
  unfold vtime_Add.f
  rw [e 0 (by omega) (by omega), e look (by omega) h2]
  simp only [Option.bind_some]
  rw [show wrap64 (0 + look) = look by unfold wrap64; omega, e look (by omega) h2]
  rfl

set_option maxHeartbeats 4000000 in
theorem regulate0 {w : World} {d : Ad} {ps ss : List Int} {m : Nat → TM} (H : Rt w d ps ss m) (hi : (m 0).is = true) (hl : (m 0).look = 0) (hk : (m 0).kind = 0) (ht : ∀ k, k < 8 → (m k).time = 0) (look : Int) (h1 : 1 ≤ look) (h2 : look ≤ 1048576) :
    Calls Tryz.prog 16 #[.pointer (some ⟨d.g, 0, none⟩), .int .i64 0, .int .i64 look] w (Turns d ps ss (mset m 0 { m 0 with look := look }) w) := by
  have HH := Aside0.mk H
  have CB := Aside0.mk (by0 H hi)
  have HK := Aside0.mk (And.intro hl (And.intro hk ht))
  have CA := Aside0.mk (fun W => vtime_Add.calls 0 look look W (add_zero_look look h1 h2))
  have hix := Aside0.mk (idxM m d.q)
  clear H hi hl hk ht
  go_enter Tryz.func16, Tryz.ntmps16
  go_wp2_with (go_at_call 18; (with_reducible refine CB.out.mono ?_); rintro e w1 ⟨rfl, hb⟩; have B1 := Aside0.mk hb; have R1 := Aside0.mk (HH.out.below hb); clear hb)
  refine wp_load_rows R1.out (.tmp 27) rfl rfl ?_
  generalize rows m d.q = A at hix ⊢
  go_wp2
  go_loopw [9, 10, 11, 29] (fun v9 v10 v11 v29 wr => ∃ k : Nat, k ≤ 8 ∧ v9 = .bool false ∧ v29 = .int .i64 k ∧ Aside0 (Below w1.heap.size w1 wr)) (fun _ _ _ k _ => 8 - (intOf k).toNat)
  case atStart => exact ⟨0, by omega, rfl, rfl, ⟨Below.refl _ _⟩⟩
  case round =>
    obtain ⟨k, hk, rfl, rfl, BW⟩ := hrel
    have hk0 : (0 : Int) ≤ (k : Int) := by omega
    have RW := Aside0.mk (R1.out.below BW.out)
    by_cases hlt : k < 8
    · have hlt1 : (k : Int) < 8 := by omega
      have hx := hix.out k hlt
      have z0 := (RW.out.time0).trans (by rw [HK.out.2.2 0 (by decide)])
      go_upto_region 9 with (fail)
      have N1 := Aside0.mk (show (wr.alloc (.cells #[.bool (m k).is, .bool (m k).con, .int .i64 (m k).time, .int .i64 (m k).look, .int .i64 (m k).kind, .int .i64 (m k).ask, .int .i64 (m k).sent, .pointer (some ⟨d.q k, 0, none⟩), .slice none 0 0, .int .u32 (m k).subs] 56 (0, 0))).heap[wr.heap.size]? = some (.cells #[.bool (m k).is, .bool (m k).con, .int .i64 (m k).time, .int .i64 (m k).look, .int .i64 (m k).kind, .int .i64 (m k).ask, .int .i64 (m k).sent, .pointer (some ⟨d.q k, 0, none⟩), .slice none 0 0, .int .u32 (m k).subs] 56 (0, 0)) from blk_new wr _)
      have E1 := Aside0.mk (show Below wr.heap.size wr (wr.alloc (.cells #[.bool (m k).is, .bool (m k).con, .int .i64 (m k).time, .int .i64 (m k).look, .int .i64 (m k).kind, .int .i64 (m k).ask, .int .i64 (m k).sent, .pointer (some ⟨d.q k, 0, none⟩), .slice none 0 0, .int .u32 (m k).subs] 56 (0, 0))) from below_alloc (Below.refl _ _) _)
      generalize (wr.alloc (.cells #[.bool (m k).is, .bool (m k).con, .int .i64 (m k).time, .int .i64 (m k).look, .int .i64 (m k).kind, .int .i64 (m k).ask, .int .i64 (m k).sent, .pointer (some ⟨d.q k, 0, none⟩), .slice none 0 0, .int .u32 (m k).subs] 56 (0, 0))) = W1 at N1 E1 ⊢
      replace z0 := pw_cell_below E1.out z0
      have n1 := (blk_cell N1.out 1).trans rfl
      have n2 : W1.cell? ⟨wr.heap.size, 2, none⟩ = some (.int .i64 0) := (blk_cell N1.out 2).trans (by rw [← HK.out.2.2 k hlt]; rfl)
      have hle : decide (look ≤ 0) = false := decide_eq_false (by omega)
      have KB := Aside0.mk (below_drew E1.out)
      have KN := Aside0.mk (And.intro n2 z0)
      by_cases hf : k = 0
      · have hf1 : ((k : Int) != 0) = false := by rw [hf]; rfl
        go_quiet (fail)
        go_wp2
        go_roundw
        case rel => exact ⟨k + 1, by omega, rfl, by go_num, ⟨below_step BW.out (by first | exact KB.out | exact pw_below_drewN E1.out _ | exact E1.out)⟩⟩
        case measure => simp [intOf]; omega
      · have hf1 : ((k : Int) != 0) = true := bne_iff_ne.mpr (by omega)
        have KM := Aside0.mk n1
        cases hcn : (m k).con with
        | true =>
          rw [hcn] at n1 KM
          go_region_held3 (fun w' => w'.cell? ⟨wr.heap.size, 1, none⟩ = some (.bool true) ∧ w'.cell? ⟨wr.heap.size, 2, none⟩ = some (.int .i64 0) ∧ w'.cell? ⟨d.g, 4, none⟩ = some (.int .i64 0)) (go_keep) (first | (go_at_call 35; (with_reducible refine (CA.out _).mono ?_); rintro e w2 ⟨rfl, hd⟩; have F2 := Aside0.mk (below_step KB.out hd.below); have y1 := pw_cell_below hd.below KM.out; have y2 := pw_cell_below hd.below KN.out.1; have y3 := pw_cell_below hd.below KN.out.2; clear hd))
          go_wp2
          go_roundw
          case rel => exact ⟨k + 1, by omega, rfl, by go_num, ⟨below_step BW.out F2.out⟩⟩
          case measure => simp [intOf]; omega
        | false =>
          rw [hcn] at n1 KM
          go_quiet (fail)
          go_wp2
          go_roundw
          case rel => exact ⟨k + 1, by omega, rfl, by go_num, ⟨below_step BW.out (by first | exact KB.out | exact pw_below_drewN E1.out _ | exact E1.out)⟩⟩
          case measure => simp [intOf]; omega
    · obtain rfl : k = 8 := by omega
      have z1 := (RW.out.look0).trans (by rw [HK.out.1])
      have z2 := (RW.out.kind0).trans (by rw [HK.out.2.1])
      have KZ := Aside0.mk (And.intro z1 z2)
      go_upto_region 11 with (fail)
      go_region_held3 (fun w' => w'.cell? ⟨d.g, 5, none⟩ = some (.int .i64 0) ∧ w'.cell? ⟨d.g, 6, none⟩ = some (.int .i64 0)) (go_keep) (first | (go_at_call 20; (with_reducible refine (all4 _ _ _ _ _ _).mono ?_); rintro e w3 ⟨rfl, hb⟩; have B3 := Aside0.mk (below_step (below_step B1.out BW.out) hb); have R3 := Aside0.mk (RW.out.below hb); have x2 := pw_cell_below hb KZ.out.1; have x3 := pw_cell_below hb KZ.out.2; have zf := R3.out.fz 5; clear hb))
      go_wp2
      go_ret
      exact ⟨rfl, R3.out.set 5 _ rfl, (But.of_below B3.out).set (Or.inl rfl) _⟩

set_option maxHeartbeats 4000000 in
theorem regulate1 {w : World} {d : Ad} {ps ss : List Int} {m : Nat → TM} (H : Rt w d ps ss m) (hi : (m 1).is = true) (hl : (m 1).look = 0) (hk : (m 1).kind = 0) (ht : ∀ k, k < 8 → (m k).time = 0) (look : Int) (h1 : 1 ≤ look) (h2 : look ≤ 1048576) :
    Calls Tryz.prog 16 #[.pointer (some ⟨d.g, 0, none⟩), .int .i64 1, .int .i64 look] w (Turns d ps ss (mset m 1 { m 1 with look := look }) w) := by
  have HH := Aside0.mk H
  have CB := Aside0.mk (by1 H hi)
  have HK := Aside0.mk (And.intro hl (And.intro hk ht))
  have CA := Aside0.mk (fun W => vtime_Add.calls 0 look look W (add_zero_look look h1 h2))
  have hix := Aside0.mk (idxM m d.q)
  clear H hi hl hk ht
  go_enter Tryz.func16, Tryz.ntmps16
  go_wp2_with (go_at_call 18; (with_reducible refine CB.out.mono ?_); rintro e w1 ⟨rfl, hb⟩; have B1 := Aside0.mk hb; have R1 := Aside0.mk (HH.out.below hb); clear hb)
  refine wp_load_rows R1.out (.tmp 27) rfl rfl ?_
  generalize rows m d.q = A at hix ⊢
  go_wp2
  go_loopw [9, 10, 11, 29] (fun v9 v10 v11 v29 wr => ∃ k : Nat, k ≤ 8 ∧ v9 = .bool false ∧ v29 = .int .i64 k ∧ Aside0 (Below w1.heap.size w1 wr)) (fun _ _ _ k _ => 8 - (intOf k).toNat)
  case atStart => exact ⟨0, by omega, rfl, rfl, ⟨Below.refl _ _⟩⟩
  case round =>
    obtain ⟨k, hk, rfl, rfl, BW⟩ := hrel
    have hk0 : (0 : Int) ≤ (k : Int) := by omega
    have RW := Aside0.mk (R1.out.below BW.out)
    by_cases hlt : k < 8
    · have hlt1 : (k : Int) < 8 := by omega
      have hx := hix.out k hlt
      have z0 := (RW.out.time1).trans (by rw [HK.out.2.2 1 (by decide)])
      go_upto_region 9 with (fail)
      have N1 := Aside0.mk (show (wr.alloc (.cells #[.bool (m k).is, .bool (m k).con, .int .i64 (m k).time, .int .i64 (m k).look, .int .i64 (m k).kind, .int .i64 (m k).ask, .int .i64 (m k).sent, .pointer (some ⟨d.q k, 0, none⟩), .slice none 0 0, .int .u32 (m k).subs] 56 (0, 0))).heap[wr.heap.size]? = some (.cells #[.bool (m k).is, .bool (m k).con, .int .i64 (m k).time, .int .i64 (m k).look, .int .i64 (m k).kind, .int .i64 (m k).ask, .int .i64 (m k).sent, .pointer (some ⟨d.q k, 0, none⟩), .slice none 0 0, .int .u32 (m k).subs] 56 (0, 0)) from blk_new wr _)
      have E1 := Aside0.mk (show Below wr.heap.size wr (wr.alloc (.cells #[.bool (m k).is, .bool (m k).con, .int .i64 (m k).time, .int .i64 (m k).look, .int .i64 (m k).kind, .int .i64 (m k).ask, .int .i64 (m k).sent, .pointer (some ⟨d.q k, 0, none⟩), .slice none 0 0, .int .u32 (m k).subs] 56 (0, 0))) from below_alloc (Below.refl _ _) _)
      generalize (wr.alloc (.cells #[.bool (m k).is, .bool (m k).con, .int .i64 (m k).time, .int .i64 (m k).look, .int .i64 (m k).kind, .int .i64 (m k).ask, .int .i64 (m k).sent, .pointer (some ⟨d.q k, 0, none⟩), .slice none 0 0, .int .u32 (m k).subs] 56 (0, 0))) = W1 at N1 E1 ⊢
      replace z0 := pw_cell_below E1.out z0
      have n1 := (blk_cell N1.out 1).trans rfl
      have n2 : W1.cell? ⟨wr.heap.size, 2, none⟩ = some (.int .i64 0) := (blk_cell N1.out 2).trans (by rw [← HK.out.2.2 k hlt]; rfl)
      have hle : decide (look ≤ 0) = false := decide_eq_false (by omega)
      have KB := Aside0.mk (below_drew E1.out)
      have KN := Aside0.mk (And.intro n2 z0)
      by_cases hf : k = 1
      · have hf1 : ((k : Int) != 1) = false := by rw [hf]; rfl
        go_quiet (fail)
        go_wp2
        go_roundw
        case rel => exact ⟨k + 1, by omega, rfl, by go_num, ⟨below_step BW.out (by first | exact KB.out | exact pw_below_drewN E1.out _ | exact E1.out)⟩⟩
        case measure => simp [intOf]; omega
      · have hf1 : ((k : Int) != 1) = true := bne_iff_ne.mpr (by omega)
        have KM := Aside0.mk n1
        cases hcn : (m k).con with
        | true =>
          rw [hcn] at n1 KM
          go_region_held3 (fun w' => w'.cell? ⟨wr.heap.size, 1, none⟩ = some (.bool true) ∧ w'.cell? ⟨wr.heap.size, 2, none⟩ = some (.int .i64 0) ∧ w'.cell? ⟨d.g, 14, none⟩ = some (.int .i64 0)) (go_keep) (first | (go_at_call 35; (with_reducible refine (CA.out _).mono ?_); rintro e w2 ⟨rfl, hd⟩; have F2 := Aside0.mk (below_step KB.out hd.below); have y1 := pw_cell_below hd.below KM.out; have y2 := pw_cell_below hd.below KN.out.1; have y3 := pw_cell_below hd.below KN.out.2; clear hd))
          go_wp2
          go_roundw
          case rel => exact ⟨k + 1, by omega, rfl, by go_num, ⟨below_step BW.out F2.out⟩⟩
          case measure => simp [intOf]; omega
        | false =>
          rw [hcn] at n1 KM
          go_quiet (fail)
          go_wp2
          go_roundw
          case rel => exact ⟨k + 1, by omega, rfl, by go_num, ⟨below_step BW.out (by first | exact KB.out | exact pw_below_drewN E1.out _ | exact E1.out)⟩⟩
          case measure => simp [intOf]; omega
    · obtain rfl : k = 8 := by omega
      have z1 := (RW.out.look1).trans (by rw [HK.out.1])
      have z2 := (RW.out.kind1).trans (by rw [HK.out.2.1])
      have KZ := Aside0.mk (And.intro z1 z2)
      go_upto_region 11 with (fail)
      go_region_held3 (fun w' => w'.cell? ⟨d.g, 15, none⟩ = some (.int .i64 0) ∧ w'.cell? ⟨d.g, 16, none⟩ = some (.int .i64 0)) (go_keep) (first | (go_at_call 20; (with_reducible refine (all4 _ _ _ _ _ _).mono ?_); rintro e w3 ⟨rfl, hb⟩; have B3 := Aside0.mk (below_step (below_step B1.out BW.out) hb); have R3 := Aside0.mk (RW.out.below hb); have x2 := pw_cell_below hb KZ.out.1; have x3 := pw_cell_below hb KZ.out.2; have zf := R3.out.fz 15; clear hb))
      go_wp2
      go_ret
      exact ⟨rfl, R3.out.set 15 _ rfl, (But.of_below B3.out).set (Or.inl rfl) _⟩
end Go.Proofs.YtaaaocckfnlgdaaGreatDoorT
