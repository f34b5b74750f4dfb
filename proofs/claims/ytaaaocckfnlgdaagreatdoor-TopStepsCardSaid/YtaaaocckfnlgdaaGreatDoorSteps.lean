/- TopSteps, walked. -/
import Derived.Test.YtaaaocckfnlgdaaGreatDoorWaits
namespace Go.Proofs.YtaaaocckfnlgdaaGreatDoorT
open Go.RowKit Go.Proofs.YtaaaocckfnlgdaaGreatDoorW.PrintWords Go.Proofs.YtaaaocckfnlgdaaGreatDoorW.PrintLast Go.Proofs.YtaaaocckfnlgdaaGreatDoorW.PrintMore Go.Proofs.YtaaaocckfnlgdaaGreatDoorU Go.Proofs.YtaaaocckfnlgdaaGreatDoor.PBase
set_option maxRecDepth 100000
set_option linter.unusedVariables false
set_option linter.unusedSimpArgs false
/-- A member who stands at T and asks to go to t. -/
def asksAt (l s T t : Int) : TM := ⟨true, true, T, l, 1, t, 0, s⟩
theorem sAsk0 {w : World} {d : Ad} {ps ss : List Int} {x : TM} {l s T t : Int} (H : Rt w d ps ss (stM (stands l s T) x)) (h0 : 0 ≤ t) (h1 : t ≤ 1000) (hT : T ≤ t) :
    Calls Tryz.prog 7 #[.pointer (some ⟨d.g, 0, none⟩), .int .i64 0, .int .i64 1, .int .i64 t] w (Turns d ps ss (stM (asksAt l s T t) x) w) := by
  have h := ask0 H rfl rfl 1 t (by omega) (by omega) h0 (by omega) hT
  rw [stM_set0] at h
  exact h
theorem sAsk1 {w : World} {d : Ad} {ps ss : List Int} {x : TM} {l s T t : Int} (H : Rt w d ps ss (stM x (stands l s T))) (h0 : 0 ≤ t) (h1 : t ≤ 1000) (hT : T ≤ t) :
    Calls Tryz.prog 7 #[.pointer (some ⟨d.g, 0, none⟩), .int .i64 1, .int .i64 1, .int .i64 t] w (Turns d ps ss (stM x (asksAt l s T t)) w) := by
  have h := ask1 H rfl rfl 1 t (by omega) (by omega) h0 (by omega) hT
  rw [stM_set1] at h
  exact h
theorem sLook0 {w : World} {d : Ad} {ps ss : List Int} {l s T t : Int} {x : TM} (H : Rt w d ps ss (stM (asksAt l s T t) x)) (hk : x.kind = 0 ∨ x.kind = 1) (h1 : 1 ≤ x.look ∧ x.look ≤ 1000) (h2 : 0 ≤ basis x ∧ basis x ≤ 1000000) (hn : t < basis x + x.look) :
    Calls Tryz.prog 8 #[.pointer (some ⟨d.g, 0, none⟩), .int .i64 0] w fun e w' => e = .returned (.tuple #[.agg #[.slice none 0 0, .slice none 0 0, .bool true, .int .i64 t], .int .i64 0]) ∧ Rt w' d ps ss (stM (stands l s t) x) ∧ But (fun b => b = d.g ∨ b = d.bt) w w' := by
  have h := look0_yes H rfl rfl rfl (basis x + x.look) (bound_val (stM (asksAt l s T t) x) (stM_still _ _) 1 (by decide) hk h1.1 (show x.look ≤ 1048576 by omega) h2.1 h2.2) hn
  rw [stM_set0] at h
  exact h
theorem sLook1 {w : World} {d : Ad} {ps ss : List Int} {l s T t : Int} {x : TM} (H : Rt w d ps ss (stM x (asksAt l s T t))) (hk : x.kind = 0 ∨ x.kind = 1) (h1 : 1 ≤ x.look ∧ x.look ≤ 1000) (h2 : 0 ≤ basis x ∧ basis x ≤ 1000000) (hn : t < basis x + x.look) :
    Calls Tryz.prog 8 #[.pointer (some ⟨d.g, 0, none⟩), .int .i64 1] w fun e w' => e = .returned (.tuple #[.agg #[.slice none 0 0, .slice none 0 0, .bool true, .int .i64 t], .int .i64 0]) ∧ Rt w' d ps ss (stM x (stands l s t)) ∧ But (fun b => b = d.g ∨ b = d.bt) w w' := by
  have h := look1_yes H rfl rfl rfl (basis x + x.look) (bound_val (stM x (asksAt l s T t)) (stM_still _ _) 0 (by decide) hk h1.1 (show x.look ≤ 1048576 by omega) h2.1 h2.2) hn
  rw [stM_set1] at h
  exact h
theorem u8_at {w : World} {A : Option Addr} {n : Nat} {xs : List Int} (h : Kd.C (Kd.int .u8) w A n xs) {k : Nat} (hk : k < n) : ∃ ad, A = some ad ∧ w.cell? (ad.add k) = some (.int .u8 (xs.getD k 0)) := by
  obtain ⟨ad, c, e, _, hK, hc⟩ := Kd.C_get h (0 : Int) (k : Int) (by omega) (by omega)
  obtain rfl := hK
  refine ⟨ad, e, ?_⟩
  have h0 : w.cell? (ad.add ((k : Int).toNat * 1 + 0)) = some (.int .u8 (xs.getD (k : Int).toNat 0)) := hc 0 _ rfl
  simpa using h0
set_option maxHeartbeats 4000000 in
theorem steps_calls (a b : Int) (A : Option Addr) (c : Nat) (l : List Int) (ha : 0 ≤ a ∧ a ≤ 255) (hb : 0 ≤ b ∧ b ≤ 255) (hl : ∀ x ∈ l, 0 ≤ x ∧ x ≤ 255) (w : World) (hr : Kd.C (Kd.int .u8) w A l.length l) (hmax : l.length ≤ 9223372036854775807) :
    Calls Tryz.prog 3 #[.int .u8 a, .int .u8 b, .slice A l.length c] w fun e w' => e = .returned (.bool true) ∧ Below w.heap.size w w' := by
  obtain ⟨a0, a1⟩ := ha
  obtain ⟨b0, b1⟩ := hb
  have HR := Aside0.mk hr
  have HL := Aside0.mk hl
  clear hr hl
  by_cases hn : 40 < l.length
  · have hn1 : (40 : Int) < (l.length : Int) := by omega
    go_enter Tryz.func3, Tryz.ntmps3
    go_wp2
    go_ret
    exact ⟨rfl, Below.refl _ _⟩
  · have hn1 : ¬ (40 : Int) < (l.length : Int) := by omega
    have hn2 : (l.length : Int) ≤ 40 := by omega
    have HX := Aside0.mk (show 1 ≤ 1 + a % 9 ∧ 1 + a % 9 ≤ 9 by omega)
    have HY := Aside0.mk (show 1 ≤ 1 + b % 9 ∧ 1 + b % 9 ≤ 9 by omega)
    have CP := Aside0.mk (fun W => pair_calls (1 + a % 9) (1 + b % 9) ⟨HX.out.1, by have := HX.out.2; omega⟩ ⟨HY.out.1, by have := HY.out.2; omega⟩ W)
    go_enter Tryz.func3, Tryz.ntmps3
    go_wp2_with (go_at_call 6; (with_reducible refine (CP.out _).mono ?_); rintro e w1 ⟨d, ps, ss, s0, s1, rfl, hr, hb, hw⟩; have R1 := Aside0.mk hr; have D1 := Aside0.mk hb; have B1 := Aside0.mk hw; clear hr hb hw)
    have HS := Aside0.mk (show ∀ k, (k = d.g ∨ k = d.bt) → w.heap.size ≤ k from fun k hk => by
      have h0 := D1.out
      have h1 := R1.out.g0
      have h2 := R1.out.t0
      omega)
    go_loopw [10, 11] (fun v10 v11 wr => ∃ (i : Nat) (T : Int), i ≤ l.length ∧ v11 = .int .i64 i ∧ v10 = .int .i64 T ∧ 0 ≤ T ∧ T ≤ 3 * (i : Int) ∧ Aside0 (Rt wr d ps ss (stM (stands (1 + a % 9) s0 T) (stands (1 + b % 9) s1 T))) ∧ Aside0 (Below w.heap.size w wr)) (fun _ i _ => l.length - (intOf i).toNat)
    case atStart => exact ⟨0, 0, by omega, rfl, rfl, by omega, by omega, R1, B1⟩
    case round =>
      clear R1 B1
      obtain ⟨i, T, hi, rfl, rfl, hT0, hT1, RR, BR⟩ := hrel
      by_cases hlt : i < l.length
      · have hlt1 : (i : Int) < (l.length : Int) := by omega
        obtain ⟨ad, rfl, kc⟩ := u8_at HR.out hlt
        replace kc := pw_cell_below BR.out kc
        have hv := HL.out (l.getD i 0) (by rw [List.getD_eq_getElem?_getD, List.getElem?_eq_getElem hlt]; exact List.getElem_mem hlt)
        generalize l.getD i 0 = v at kc hv
        obtain ⟨v0, v1⟩ := hv
        go_upto_region 13 with (fail)
        have HT := Aside0.mk (show 0 ≤ T + (1 + v % 3) ∧ T + (1 + v % 3) ≤ 1000 ∧ T ≤ T + (1 + v % 3) ∧ T + (1 + v % 3) ≤ 3 * ((i : Int) + 1) by omega)
        go_upto_region 15 with (first | (go_at_call 7; (with_reducible refine (sAsk0 RR.out HT.out.1 HT.out.2.1 HT.out.2.2.1).mono ?_); rintro e w2 ⟨rfl, hr, hb⟩; have R2 := Aside0.mk hr; have L2 := Aside0.mk (But.below BR.out hb BR.out.size HS.out); clear hr hb) | (go_at_call 7; (with_reducible refine (sAsk1 R2.out HT.out.1 HT.out.2.1 HT.out.2.2.1).mono ?_); rintro e w3 ⟨rfl, hr, hb⟩; have R3 := Aside0.mk hr; have L3 := Aside0.mk (But.below L2.out hb L2.out.size HS.out); clear hr hb))
        have C4 := Aside0.mk (sLook0 R3.out (Or.inr rfl) ⟨HY.out.1, (show 1 + b % 9 ≤ 1000 by have := HY.out.2; omega)⟩ ⟨(show 0 ≤ T + (1 + v % 3) from HT.out.1), (show T + (1 + v % 3) ≤ 1000000 by have := HT.out.2.1; omega)⟩ (show T + (1 + v % 3) < T + (1 + v % 3) + (1 + b % 9) by have := HY.out.1; omega))
        go_upto_region 16 with (go_at_call 8; (with_reducible refine C4.out.mono ?_); rintro e w4 ⟨rfl, hr, hb⟩; have R4 := Aside0.mk hr; have L4 := Aside0.mk (But.below L3.out hb L3.out.size HS.out); clear hr hb)
        have N5 := Aside0.mk (show (w4.alloc (.cells #[.slice none 0 0, .slice none 0 0, .bool true, .int .i64 (T + (1 + v % 3))] 29 (0, 0))).heap[w4.heap.size]? = some (.cells #[.slice none 0 0, .slice none 0 0, .bool true, .int .i64 (T + (1 + v % 3))] 29 (0, 0)) from blk_new w4 _)
        have R5 := Aside0.mk (R4.out.below (show Below w4.heap.size w4 (w4.alloc (.cells #[.slice none 0 0, .slice none 0 0, .bool true, .int .i64 (T + (1 + v % 3))] 29 (0, 0))) from below_alloc (Below.refl _ _) _))
        have L5 := Aside0.mk (show Below w.heap.size w (w4.alloc (.cells #[.slice none 0 0, .slice none 0 0, .bool true, .int .i64 (T + (1 + v % 3))] 29 (0, 0))) from below_alloc L4.out _)
        have G5 := Aside0.mk (show ¬ (w4.heap.size = d.g ∨ w4.heap.size = d.bt) from fun h => by
          have h1 := blk_lt R4.out.blk
          have h2 := blk_lt R4.out.tab.blk
          omega)
        clear R4 L4 C4
        generalize (w4.alloc (.cells #[.slice none 0 0, .slice none 0 0, .bool true, .int .i64 (T + (1 + v % 3))] 29 (0, 0))) = w5 at N5 R5 L5 ⊢
        generalize w4.heap.size = g5 at N5 G5 ⊢
        have C6 := Aside0.mk (sLook1 R5.out (Or.inl rfl) ⟨HX.out.1, (show 1 + a % 9 ≤ 1000 by have := HX.out.2; omega)⟩ ⟨(show 0 ≤ T + (1 + v % 3) from HT.out.1), (show T + (1 + v % 3) ≤ 1000000 by have := HT.out.2.1; omega)⟩ (show T + (1 + v % 3) < T + (1 + v % 3) + (1 + a % 9) by have := HX.out.1; omega))
        go_upto_region 17 with (go_at_call 8; (with_reducible refine C6.out.mono ?_); rintro e w6 ⟨rfl, hr, hb⟩; have R6 := Aside0.mk hr; have N6 := Aside0.mk (hb.blk N5.out G5.out); have L6 := Aside0.mk (But.below L5.out hb L5.out.size HS.out); clear hr hb)
        have N7 := Aside0.mk (show (w6.alloc (.cells #[.slice none 0 0, .slice none 0 0, .bool true, .int .i64 (T + (1 + v % 3))] 29 (0, 0))).heap[g5]? = some (.cells #[.slice none 0 0, .slice none 0 0, .bool true, .int .i64 (T + (1 + v % 3))] 29 (0, 0)) from blk_alloc N6.out _)
        have M7 := Aside0.mk (show (w6.alloc (.cells #[.slice none 0 0, .slice none 0 0, .bool true, .int .i64 (T + (1 + v % 3))] 29 (0, 0))).heap[w6.heap.size]? = some (.cells #[.slice none 0 0, .slice none 0 0, .bool true, .int .i64 (T + (1 + v % 3))] 29 (0, 0)) from blk_new w6 _)
        have R7 := Aside0.mk (R6.out.below (show Below w6.heap.size w6 (w6.alloc (.cells #[.slice none 0 0, .slice none 0 0, .bool true, .int .i64 (T + (1 + v % 3))] 29 (0, 0))) from below_alloc (Below.refl _ _) _))
        have L7 := Aside0.mk (show Below w.heap.size w (w6.alloc (.cells #[.slice none 0 0, .slice none 0 0, .bool true, .int .i64 (T + (1 + v % 3))] 29 (0, 0))) from below_alloc L6.out _)
        generalize (w6.alloc (.cells #[.slice none 0 0, .slice none 0 0, .bool true, .int .i64 (T + (1 + v % 3))] 29 (0, 0))) = w7 at N7 M7 R7 L7 ⊢
        generalize w6.heap.size = g7 at M7 ⊢
        have n2 := (blk_cell N7.out 2).trans rfl
        have n3 := (blk_cell N7.out 3).trans rfl
        have m2 := (blk_cell M7.out 2).trans rfl
        have m3 := (blk_cell M7.out 3).trans rfl
        go_wp2
        go_roundw
        case rel => exact ⟨i + 1, T + (1 + v % 3), by omega, by go_num, rfl, HT.out.1, by have := HT.out.2.2.2; omega, R7, L7⟩
        case measure => simp [intOf]; omega
      · have hlt1 : ¬ (i : Int) < (l.length : Int) := by omega
        have HT := Aside0.mk (show 0 ≤ T ∧ T ≤ 1000 by omega)
        have C0 := Aside0.mk (bound_val (stM (stands (1 + a % 9) s0 T) (stands (1 + b % 9) s1 T)) (stM_still _ _) 0 (by decide) (Or.inl rfl) HX.out.1 (show 1 + a % 9 ≤ 1048576 by have := HX.out.2; omega) (show (0 : Int) ≤ T from HT.out.1) (show T ≤ 1000000 by have := HT.out.2; omega))
        have C1 := Aside0.mk (bound_val (stM (stands (1 + a % 9) s0 T) (stands (1 + b % 9) s1 T)) (stM_still _ _) 1 (by decide) (Or.inl rfl) HY.out.1 (show 1 + b % 9 ≤ 1048576 by have := HY.out.2; omega) (show (0 : Int) ≤ T from HT.out.1) (show T ≤ 1000000 by have := HT.out.2; omega))
        have T0 := Aside0.mk (show ∀ W, Rt W d ps ss (stM (stands (1 + a % 9) s0 T) (stands (1 + b % 9) s1 T)) → Calls Tryz.prog 9 #[.pointer (some ⟨d.g, 0, none⟩), .int .i64 0] W fun e w' => e = .returned (.int .i64 T) ∧ W = w' from fun W h => time0 h rfl)
        have T1 := Aside0.mk (show ∀ W, Rt W d ps ss (stM (stands (1 + a % 9) s0 T) (stands (1 + b % 9) s1 T)) → Calls Tryz.prog 9 #[.pointer (some ⟨d.g, 0, none⟩), .int .i64 1] W fun e w' => e = .returned (.int .i64 T) ∧ W = w' from fun W h => time1 h rfl)
        have K0 := Aside0.mk (show ∀ W, Rt W d ps ss (stM (stands (1 + a % 9) s0 T) (stands (1 + b % 9) s1 T)) → Calls Tryz.prog 10 #[.pointer (some ⟨d.g, 0, none⟩), .int .i64 0] W fun e w' => e = .returned (.int .i64 (T + (1 + b % 9))) ∧ Below W.heap.size W w' from fun W h => bound0 h rfl HT.out.1 _ C1.out)
        have K1 := Aside0.mk (show ∀ W, Rt W d ps ss (stM (stands (1 + a % 9) s0 T) (stands (1 + b % 9) s1 T)) → Calls Tryz.prog 10 #[.pointer (some ⟨d.g, 0, none⟩), .int .i64 1] W fun e w' => e = .returned (.int .i64 (T + (1 + a % 9))) ∧ Below W.heap.size W w' from fun W h => bound1 h rfl HT.out.1 _ C0.out)
        clear hlt
        go_wp2_with (first | (go_at_call 9; (with_reducible refine (T0.out _ RR.out).mono ?_); rintro e w2 ⟨rfl, rfl⟩) | (go_at_call 9; (with_reducible refine (T1.out _ RR.out).mono ?_); rintro e w3 ⟨rfl, rfl⟩) | (go_at_call 10; (with_reducible refine (K0.out _ RR.out).mono ?_); rintro e w4 ⟨rfl, hb⟩; have R4 := Aside0.mk (RR.out.below hb); have L4 := Aside0.mk (below_step BR.out hb); clear hb) | (go_at_call 10; (with_reducible refine (K1.out _ R4.out).mono ?_); rintro e w5 ⟨rfl, hb⟩; have L5 := Aside0.mk (below_step L4.out hb); clear hb))
        go_ret
        exact ⟨by simp, L5.out⟩
end Go.Proofs.YtaaaocckfnlgdaaGreatDoorT
